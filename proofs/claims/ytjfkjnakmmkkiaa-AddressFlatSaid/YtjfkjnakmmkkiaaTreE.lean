/- The contract of Check of tree. -/
import Derived.Test.YtjfkjnakmmkkiaaMapB
import Derived.Maps.Own
namespace Go.Proofs.Ytjfkjnakmmkkiaa
open Go.RowKit

theorem fitB_cases (n : NodeT) : (24 < n.props.length ∧ fitB n = false) ∨ (n.props.length ≤ 24 ∧ n.props.any bigB = true ∧ fitB n = false) ∨ (n.props.length ≤ 24 ∧ n.props.any bigB = false ∧ fitB n = true) := by
  have e : n.props.all (fun p => decide (p.value.size ≤ 256)) = !n.props.any bigB := by
    rw [Bool.eq_iff_iff]
    simp [bigB]
  unfold fitB
  rw [e]
  by_cases h : 24 < n.props.length
  · left; simp; omega
  · cases n.props.any bigB
    · right; right; simp; omega
    · right; left; simp; omega
theorem limits_false {T : List NodeT} (h : T.length = 0 ∨ 120 < T.length) : checkT T = 3 := by
  unfold checkT limitsT
  rw [decide_eq_false (by omega)]; rfl
theorem limits_fit {T : List NodeT} (h : T.all fitB = false) : checkT T = 3 := by
  unfold checkT limitsT
  rw [h, Bool.and_false]; rfl
theorem limits_true {T : List NodeT} (h0 : 1 ≤ T.length) (h1 : T.length ≤ 120) (h : T.all fitB = true) : limitsT T = true := by
  unfold limitsT
  rw [h, decide_eq_true ⟨h0, h1⟩]; rfl
theorem twinF_cons (i : Nat) (S : List (ByteArray × Int)) (n : NodeT) (r : List NodeT) : twinF i S (n :: r) = ((decide (0 < i) && memS S (n.name, n.parent)) || twinF (i + 1) (S ++ [(n.name, n.parent)]) r) := rfl

set_option maxHeartbeats 4000000 in
theorem tree_Check (R : Nat → Prop) (v : Value) (T : List NodeT) (w : World) (hT : NodesIn R w v T) :
    Calls Try.prog 39 #[.agg #[v]] w fun e w' => e = .returned (.int .i64 (checkT T)) ∧ Below w.heap.size w w' := by
  have hT0 := hT
  obtain ⟨a, cap, rfl, hc1, hc2⟩ := hT.shape
  have HT := Lib.hid hT; clear hT hT0
  by_cases hz : T.length = 0
  · have hzb : ((T.length : Int) == 0) = true := by simp [hz]
    have hC := Lib.hid (limits_false (.inl hz))
    clear hz
    go_enter Try.func39, Try.ntmps39
    go_wp2_with fail
    go_ret
    exact ⟨ret_int (by rw [hC.out]), (Below.refl _ _).alloc (Nat.le_refl _) _⟩
  · by_cases hbig : 120 < T.length
    · have hzb : ((T.length : Int) == 0) = false := by rw [beq_eq_false_iff_ne]; omega
      have hC := Lib.hid (limits_false (.inr hbig))
      clear hz
      go_enter Try.func39, Try.ntmps39
      go_wp2_with fail
      go_ret
      exact ⟨ret_int (by rw [hC.out]), (Below.refl _ _).alloc (Nat.le_refl _) _⟩
    · have hzb : ((T.length : Int) == 0) = false := by rw [beq_eq_false_iff_ne]; omega
      have hz1 : 1 ≤ T.length := by omega
      have hz2 : T.length ≤ 120 := by omega
      clear hz hbig
      go_enter Try.func39, Try.ntmps39
      go_wp2_with fail
      go_loopg [23] (T.length) (fun f x wr => ∃ k : Nat, x = .int .i64 k ∧ k ≤ T.length ∧ T.length ≤ k + f ∧ Hid (T.all fitB = (T.drop k).all fitB) ∧ Below w.heap.size w wr ∧ Holds wr w.heap.size #[.slice a T.length cap] 27)
      case atStart => exact ⟨0, rfl, by omega, by omega, by simp [Hid], (Below.refl _ _).alloc (Nat.le_refl _) _, Holds.new w _ _⟩
      case round =>
        obtain ⟨k, rfl, hk, hf, hA, hb, hB⟩ := hrel
        have hbs := hb.size
        by_cases hlt : k < T.length
        · obtain ⟨g, o, pa, pc, rfl, hg, c0, c1, c2, hp, p1, p2, b0, b1, b2⟩ := (HT.out.new hb).at k hlt
          have HPn := Lib.hid hp; clear hp
          have hdrop := Lib.hid (show (T.drop k).all fitB = (fitB T[k] && (T.drop (k + 1)).all fitB) from by rw [List.drop_eq_getElem_cons hlt]; rfl)
          rcases fitB_cases T[k] with ⟨h24, hfit⟩ | ⟨h24, hany, hfit⟩ | ⟨h24, hany, hfit⟩
          · have hF := Lib.hid hfit; clear hfit
            go_wp2_with fail
            go_ret
            exact ⟨ret_int (by rw [limits_fit (by rw [hA.out, hdrop.out, hF.out]; rfl)]), hb.alloc hbs _⟩
          · have hF := Lib.hid hfit; clear hfit
            have HANY := Lib.hid hany; clear hany
            go_wp2_with fail
            refine (props_ContainsFunc R _ T[k].props _ (by exact HPn.out.new ((Below.refl wr.heap.size wr).alloc (Nat.le_refl _) _))).mono ?_
            rw [HANY.out]
            rintro e w' ⟨rfl, hb'⟩
            go_wp2_with fail
            go_ret
            exact ⟨ret_int (by rw [limits_fit (by rw [hA.out, hdrop.out, hF.out]; rfl)]), (hb.alloc hbs _).trans (hb'.mono (by simp; omega))⟩
          · have hF := Lib.hid hfit; clear hfit
            have HANY := Lib.hid hany; clear hany
            go_wp2_with fail
            refine (props_ContainsFunc R _ T[k].props _ (by exact HPn.out.new ((Below.refl wr.heap.size wr).alloc (Nat.le_refl _) _))).mono ?_
            rw [HANY.out]
            rintro e w' ⟨rfl, hb'⟩
            have hlt' := hB.lt
            have hB' := (hB.alloc (.cells #[.int .i64 T[k].parent, .string T[k].name, .slice pa T[k].props.length pc] 42)).keeps (Keeps.of_fresh hb' (fun _ => False)) (fun e => e)
            go_wp2_with fail
            go_roundg (gk - 1)
            case measure => omega
            case rel => exact ⟨k + 1, by go_num, by omega, by omega, by show _ = _; rw [hA.out, hdrop.out, hF.out, Bool.true_and], (hb.alloc hbs _).trans (hb'.mono (by simp; omega)), hB'⟩
        · have hfits := Lib.hid (limits_true hz1 hz2 (by rw [hA.out, List.drop_eq_nil_of_le (by omega)]; rfl))
          have bx := hB.cell 0
          clear hA
          have hL : limitsT T = true := hfits.out
          clear hfits
          cases hnm : namedT T with
          | false =>
            have hC := Lib.hid (show checkT T = 1 from by unfold checkT; rw [hL, hnm]; rfl)
            have hN := fun wx hx => tree_named R (.slice a T.length cap) T wx hx
            rw [hnm] at hN
            have HN := Lib.hid hN; clear hN
            clear hnm hL
            go_wp2_with fail
            refine (HN.out _ (by exact HT.out.new hb)).mono ?_
            rintro e w' ⟨rfl, hb'⟩
            go_wp2_with fail
            go_ret
            exact ⟨ret_int (by rw [hC.out]), hb.trans (hb'.mono hbs)⟩
          | true =>
            have hN := fun wx hx => tree_named R (.slice a T.length cap) T wx hx
            rw [hnm] at hN
            have HN := Lib.hid hN; clear hN
            have hW := fun wx hx => tree_walked R (.slice a T.length cap) T wx hx hnm (by omega)
            have HNM := Lib.hid hnm
            have HLM := Lib.hid hL
            go_wp2_with fail
            refine (HN.out _ (by exact HT.out.new hb)).mono ?_
            rintro e w2 ⟨rfl, hb2⟩
            have hb3 := hb.trans (hb2.mono hbs)
            have hB2 := hB.keeps (Keeps.of_fresh hb2 (fun _ => False)) (fun e => e)
            have bx2 := hB2.cell 0
            cases hwk : walkedT T with
            | false =>
              have hC := Lib.hid (show checkT T = 12 from by unfold checkT; rw [hL, hnm, hwk]; rfl)
              rw [hwk] at hW
              have HW := Lib.hid hW; clear hW
              clear hwk hnm hL
              go_wp2_with fail
              refine (HW.out _ (by exact HT.out.new hb3)).mono ?_
              rintro e w' ⟨rfl, hb'⟩
              go_wp2_with fail
              go_ret
              exact ⟨ret_int (by rw [hC.out]), hb3.trans (hb'.mono hb3.size)⟩
            | true =>
              rw [hwk] at hW
              have HW := Lib.hid hW; clear hW
              have HWK := Lib.hid hwk
              clear hwk hnm hL
              have hmm := @run_makeMap Try.prog
              go_wp2_with fail
              refine (HW.out _ (by exact HT.out.new hb3)).mono ?_
              rintro e w4 ⟨rfl, hb4⟩
              have hb5 := hb3.trans (hb4.mono hb3.size)
              have hB4 := hB2.keeps (Keeps.of_fresh hb4 (fun _ => False)) (fun e => e)
              have bx4 := hB4.cell 0
              have blt4 := hB4.lt
              go_wp2_with fail
              go_loopg [47] (T.length) (fun f x wr => ∃ (k : Nat) (S : List (ByteArray × Int)), x = .int .i64 k ∧ k ≤ T.length ∧ T.length ≤ k + f ∧ Hid (twinT T = twinF k S (T.drop k)) ∧ (k = 0 → S = []) ∧ SetAt wr w4.heap.size S ∧ Below w.heap.size w wr ∧ Holds wr w.heap.size #[.slice a T.length cap] 27)
              case atStart =>
                refine ⟨0, [], rfl, by omega, by omega, rfl, fun _ => rfl, ⟨#[], 0, heap_alloc_new w4 _, rfl, ?_, ?_⟩, hb5.alloc hb5.size _, hB4.alloc _⟩
                · intro e he; simp at he
                · intro x hx; simp at hx
              case round =>
                obtain ⟨k, S, rfl, hk, hf, hTw, hS0, hS, hb, hB⟩ := hrel
                have hbs := hb.size
                have hms : w.heap.size ≤ w4.heap.size := hb5.size
                have hmlt := hS.lt
                by_cases hlt : k < T.length
                · obtain ⟨g, o, pa, pc, rfl, hg, c0, c1, c2, hp, p1, p2, b0, b1, b2⟩ := (HT.out.new hb).at k hlt
                  have hstep := Lib.hid (show twinF k S (T.drop k) = ((decide (0 < k) && memS S (T[k].name, T[k].parent)) || twinF (k + 1) (S ++ [(T[k].name, T[k].parent)]) (T.drop (k + 1))) from by rw [List.drop_eq_getElem_cons hlt]; rfl)
                  have hko : KeyOk (T[k].name, T[k].parent) := ⟨b0, b1, b2⟩
                  have hS2 := (hS.alloc (.cells #[.int .i64 T[k].parent, .string T[k].name, .slice pa T[k].props.length pc] 42)).alloc (.cells #[.string T[k].name, .int .i64 T[k].parent] 114)
                  have hb6 := (hb.alloc hbs (.cells #[.int .i64 T[k].parent, .string T[k].name, .slice pa T[k].props.length pc] 42)).alloc (by simp; omega) (.cells #[.string T[k].name, .int .i64 T[k].parent] 114)
                  have hB6 := (hB.alloc (.cells #[.int .i64 T[k].parent, .string T[k].name, .slice pa T[k].props.length pc] 42)).alloc (.cells #[.string T[k].name, .int .i64 T[k].parent] 114)
                  have hlook := hS2.look (T[k].name, T[k].parent) hko
                  unfold keyV at hlook
                  clear hp
                  by_cases hk0 : 0 < k
                  · have hk0b : decide (0 < k) = true := by simpa using hk0
                    cases hm : memS S (T[k].name, T[k].parent) with
                    | true =>
                      rw [hm] at hlook
                      have hC := Lib.hid (show checkT T = 5 from by
                        unfold checkT; rw [HLM.out, HNM.out, HWK.out, hTw.out, hstep.out, hm, hk0b]; rfl)
                      clear hm
                      go_wp2_with fail
                      go_ret
                      exact ⟨ret_int (by rw [hC.out]), hb6⟩
                    | false =>
                      rw [hm] at hlook
                      obtain ⟨ob, hput, hS3⟩ := hS2.put (T[k].name, T[k].parent) hko hm
                      unfold keyV at hput
                      have HM := Lib.hid hm
                      clear hm
                      go_wp2_with fail
                      go_roundg (gk - 1)
                      case measure => omega
                      case rel =>
                        exact ⟨k + 1, _, by go_num, by omega, by omega, by show _ = _; rw [hTw.out, hstep.out, HM.out]; simp, by omega, hS3, below_setBlock hb6 hms, holds_setBlock hB6 (by have := hB4.lt; omega)⟩
                  · have hk0' : k = 0 := by omega
                    have hSn := hS0 hk0'
                    subst hSn
                    have hk0b : decide (0 < k) = false := by simpa using hk0
                    obtain ⟨ob, hput, hS3⟩ := hS2.put (T[k].name, T[k].parent) hko rfl
                    unfold keyV at hput
                    have HK := Lib.hid hk0'
                    clear hlook hk0'
                    go_wp2_with fail
                    go_roundg (gk - 1)
                    case measure => omega
                    case rel =>
                      exact ⟨k + 1, _, by go_num, by omega, by omega, by show _ = _; rw [hTw.out, hstep.out, hk0b]; simp, by omega, hS3, below_setBlock hb6 hms, holds_setBlock hB6 (by have := hB4.lt; omega)⟩
                · have hTwF := Lib.hid (show twinT T = false from by rw [hTw.out, List.drop_eq_nil_of_le (by omega)]; rfl)
                  have bx5 := hB.cell 0
                  have blt5 := hB.lt
                  clear hTw hS
                  go_wp2_with fail
                  go_loopg [70] (T.length) (fun f x wx => ∃ j : Nat, x = .int .i64 j ∧ j ≤ T.length ∧ T.length ≤ j + f ∧ Hid (∀ i, i < j → depT T i ≤ 8) ∧ Below w.heap.size w wx ∧ Holds wx w.heap.size #[.slice a T.length cap] 27)
                  case atStart => exact ⟨0, rfl, by omega, by omega, fun i h => absurd h (by omega), hb, hB⟩
                  case round =>
                    obtain ⟨j, rfl, hj, hf2, hD, hb7, hB7⟩ := hrel
                    have hbs7 := hb7.size
                    have bx7 := hB7.cell 0
                    have blt7 := hB7.lt
                    by_cases hjl : j < T.length
                    · have hdp := fun wx hx => tree_depth R (.slice a T.length cap) T j wx hx HNM.out (by omega) (by omega) (by omega)
                      have hde := Lib.hid (show depT T j = depF T T.length j from rfl)
                      generalize depF T T.length (j : Int) = d at hdp hde
                      have HDP := Lib.hid hdp; clear hdp
                      by_cases hd8 : 8 < d
                      · have hC := Lib.hid (show checkT T = 2 from by
                          have : deepT T = true := by
                            unfold deepT
                            rw [List.any_eq_true]
                            exact ⟨j, List.mem_range.2 hjl, by rw [hde.out]; simpa using hd8⟩
                          unfold checkT; rw [HLM.out, HNM.out, HWK.out, hTwF.out, this]; rfl)
                        go_wp2_with fail
                        refine (HDP.out _ (by exact HT.out.new hb7)).mono ?_
                        rintro e w' ⟨rfl, hb'⟩
                        go_wp2_with fail
                        go_ret
                        exact ⟨ret_int (by rw [hC.out]), hb7.trans (hb'.mono hbs7)⟩
                      · have hd8' : d ≤ 8 := by omega
                        go_wp2_with fail
                        refine (HDP.out _ (by exact HT.out.new hb7)).mono ?_
                        rintro e w' ⟨rfl, hb'⟩
                        have hB8 := hB7.keeps (Keeps.of_fresh hb' (fun _ => False)) (fun e => e)
                        go_wp2_with fail
                        go_roundg (gk - 1)
                        case measure => omega
                        case rel =>
                          refine ⟨j + 1, by go_num, by omega, by omega, ?_, hb7.trans (hb'.mono hbs7), hB8⟩
                          intro i hi
                          by_cases hij : i = j
                          · subst hij; rw [hde.out]; exact hd8'
                          · exact hD i (by omega)
                    · have hC := Lib.hid (show checkT T = 0 from by
                        have : deepT T = false := by
                          unfold deepT
                          rw [Bool.eq_false_iff, Ne, List.any_eq_true]
                          rintro ⟨i, hi, h8⟩
                          have := hD.out i (by have := List.mem_range.1 hi; omega)
                          simp at h8
                          omega
                        unfold checkT; rw [HLM.out, HNM.out, HWK.out, hTwF.out, this]; rfl)
                      go_wp2_with fail
                      go_ret
                      exact ⟨ret_int (by rw [hC.out]), hb7⟩
end Go.Proofs.Ytjfkjnakmmkkiaa
