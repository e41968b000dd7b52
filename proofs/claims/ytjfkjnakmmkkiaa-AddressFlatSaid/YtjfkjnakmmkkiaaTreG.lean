/- The contract of Value of tree. -/
import Derived.Test.YtjfkjnakmmkkiaaTreF
namespace Go.Proofs.Ytjfkjnakmmkkiaa
open Go.RowKit

theorem fit_props {T : List NodeT} (h : checkT T = 0) (k : Nat) (hk : k < T.length) : T[k].props.length ≤ 24 := by
  have := check_limits h
  unfold limitsT at this
  simp only [Bool.and_eq_true, List.all_eq_true] at this
  have := this.2 _ (List.getElem_mem hk)
  unfold fitB at this
  simp only [Bool.and_eq_true, decide_eq_true_eq] at this
  exact this.1
theorem has_lt {ps : List PropT} {x : ByteArray} (h : hasT ps x = true) : ∃ hl : lowT ps x < ps.length, eqS (ps[lowT ps x]).name x = true := by
  unfold hasT at h
  split at h
  · rename_i p hp
    obtain ⟨hl, e⟩ := List.getElem?_eq_some_iff.1 hp
    exact ⟨hl, by rw [e]; exact h⟩
  · cases h
def ValuePost (T : List NodeT) (node : Int) (x : ByteArray) (w : World) (e : Ending) (w' : World) : Prop :=
  e = .returned (.tuple #[.string (valueT T node x).1, .bool (valueT T node x).2]) ∧ Below w.heap.size w w'

set_option maxHeartbeats 2000000 in
theorem tree_Value (R : Nat → Prop) (v : Value) (T : List NodeT) (node : Int) (x : ByteArray) (w : World) (hT : NodesIn R w v T) :
    Calls Try.prog 77 #[.agg #[v], .int .i64 node, .string x] w (ValuePost T node x w) := by
  have hT0 := hT.shape
  obtain ⟨a, cap, rfl, hc1, hc2⟩ := hT0
  have HT := Lib.hid hT; clear hT
  have hck := fun wx hx => tree_Check R (.slice a T.length cap) T wx hx
  unfold ValuePost
  by_cases hc : checkT T = 0
  · rw [hc] at hck
    have HCK := Lib.hid hck; clear hck
    have HC := Lib.hid hc
    by_cases hn : node < 0
    · have hV := Lib.hid (show valueT T node x = (ByteArray.empty, false) from by unfold valueT; rw [if_pos (.inr (.inl hn))])
      clear hc
      go_enter Try.func77, Try.ntmps77
      go_wp2_with fail
      refine (HCK.out _ (by exact HT.out.new ((Below.refl w.heap.size w).alloc (Nat.le_refl _) _))).mono ?_
      rintro e w' ⟨rfl, hb⟩
      go_wp2_with fail
      go_ret2
      exact ⟨by rw [hV.out]; rfl, ((Below.refl _ _).alloc (Nat.le_refl _) _).trans (hb.mono (by simp))⟩
    · by_cases hbig : (T.length : Int) ≤ node
      · have hV := Lib.hid (show valueT T node x = (ByteArray.empty, false) from by unfold valueT; rw [if_pos (.inr (.inr hbig))])
        clear hc
        have hn' : 0 ≤ node := by omega
        go_enter Try.func77, Try.ntmps77
        go_wp2_with fail
        refine (HCK.out _ (by exact HT.out.new ((Below.refl w.heap.size w).alloc (Nat.le_refl _) _))).mono ?_
        rintro e w' ⟨rfl, hb⟩
        have hB := (Holds.new w #[.slice a T.length cap] 27).keeps (Keeps.of_fresh hb (fun _ => False)) (fun e => e)
        have bx := hB.cell 0
        have blt := hB.lt
        go_wp2_with fail
        go_ret2
        exact ⟨by rw [hV.out]; rfl, ((Below.refl _ _).alloc (Nat.le_refl _) _).trans (hb.mono (by simp))⟩
      · obtain ⟨k, rfl⟩ := Int.eq_ofNat_of_zero_le (show 0 ≤ node by omega)
        have hk : k < T.length := by omega
        have hkb : decide (T.length ≤ k) = false := by simp; omega
        have hV := Lib.hid (show valueT T k x = (if hasT T[k].props x = true then (match T[k].props[lowT T[k].props x]? with | some p => p.value | none => ByteArray.empty, true) else (ByteArray.empty, false)) from by
          unfold valueT
          rw [if_neg (by rintro (h | h | h); exact h hc; omega; omega), Int.toNat_natCast, List.getElem?_eq_getElem hk]
          rfl)
        have hasc := check_asc hc T[k] (List.getElem_mem hk)
        have hl24 := fit_props hc k hk
        clear hc hn hbig
        obtain ⟨g, o, pa, pc, rfl, hg, c0, c1, c2, hp, p1, p2, b0, b1, b2⟩ := HT.out.at k hk
        have hpr := fun (wx : World) (pv : Value) (hx : PropsIn R wx pv T[k].props) => tree_property R pv T[k] x wx hx hasc (by omega)
        have HP := Lib.hid hp; clear hp
        cases hh : hasT T[k].props x with
        | false =>
          rw [hh] at hpr hV
          have HPR := Lib.hid hpr; clear hpr
          generalize lowT T[k].props x = y at HPR
          go_enter Try.func77, Try.ntmps77
          go_wp2_with fail
          refine (HCK.out _ (by exact HT.out.new ((Below.refl w.heap.size w).alloc (Nat.le_refl _) _))).mono ?_
          rintro e w1 ⟨rfl, hb⟩
          have hK1 := ((Keeps.refl (fun _ => False) w).alloc (.cells #[.slice (some ⟨g, o, none⟩) T.length cap] 27)).trans (Keeps.of_fresh hb (fun _ => False)) (fun _ _ e => e)
          have hB := (Holds.new w #[.slice (some ⟨g, o, none⟩) T.length cap] 27).keeps (Keeps.of_fresh hb (fun _ => False)) (fun e => e)
          have bx := hB.cell 0
          have blt := hB.lt
          have d0 := (hK1.cell (p := ⟨g, o + k * 3, none⟩) hg (fun e => e)).trans c0
          have d1 := (hK1.cell (p := ⟨g, o + k * 3 + 1, none⟩) hg (fun e => e)).trans c1
          have d2 := (hK1.cell (p := ⟨g, o + k * 3 + 2, none⟩) hg (fun e => e)).trans c2
          have HP1 := Lib.hid (HP.out.keeps hK1 (fun _ _ e => e))
          have hb1 : Below w.heap.size w w1 := hK1.below (Nat.le_refl _) (fun _ _ e => e)
          clear hK1 c0 c1 c2
          go_wp2_with fail
          refine (HPR.out _ _ (by exact HP1.out)).mono ?_
          rintro e w2 ⟨rfl, hb2⟩
          go_wp2_with fail
          go_ret2
          exact ⟨by rw [hV.out]; rfl, hb1.trans (hb2.mono hb1.size)⟩
        | true =>
          obtain ⟨hlt, _⟩ := has_lt hh
          rw [hh] at hpr hV
          have hV1 : ∀ p, T[k].props[lowT T[k].props x]? = some p → valueT T k x = (p.value, true) := by
            intro p hp
            rw [hV.out, if_pos rfl, hp]
          clear hV
          generalize lowT T[k].props x = y at hpr hV1 hlt
          have hV2 := Lib.hid (hV1 _ (List.getElem?_eq_getElem hlt))
          clear hV1
          have HPR := Lib.hid hpr; clear hpr
          obtain ⟨gp, op, rfl, hgp, e0, e1, _, _⟩ := HP.out.at y hlt
          go_enter Try.func77, Try.ntmps77
          go_wp2_with fail
          refine (HCK.out _ (by exact HT.out.new ((Below.refl w.heap.size w).alloc (Nat.le_refl _) _))).mono ?_
          rintro e w1 ⟨rfl, hb⟩
          have hK1 := ((Keeps.refl (fun _ => False) w).alloc (.cells #[.slice (some ⟨g, o, none⟩) T.length cap] 27)).trans (Keeps.of_fresh hb (fun _ => False)) (fun _ _ e => e)
          have hB := (Holds.new w #[.slice (some ⟨g, o, none⟩) T.length cap] 27).keeps (Keeps.of_fresh hb (fun _ => False)) (fun e => e)
          have bx := hB.cell 0
          have blt := hB.lt
          have d0 := (hK1.cell (p := ⟨g, o + k * 3, none⟩) hg (fun e => e)).trans c0
          have d1 := (hK1.cell (p := ⟨g, o + k * 3 + 1, none⟩) hg (fun e => e)).trans c1
          have d2 := (hK1.cell (p := ⟨g, o + k * 3 + 2, none⟩) hg (fun e => e)).trans c2
          have HP1 := Lib.hid (HP.out.keeps hK1 (fun _ _ e => e))
          have hb1 : Below w.heap.size w w1 := hK1.below (Nat.le_refl _) (fun _ _ e => e)
          have hs1 := hb1.size
          go_wp2_with fail
          refine (HPR.out _ _ (by exact HP1.out)).mono ?_
          rintro e w2 ⟨rfl, hb2⟩
          have hK2 := hK1.trans (Keeps.of_fresh hb2 (fun _ => False)) (fun _ _ e => e)
          have hB2 := hB.keeps (Keeps.of_fresh hb2 (fun _ => False)) (fun e => e)
          have bx2 := hB2.cell 0
          have blt2 := hB2.lt
          have f2 := (hK2.cell (p := ⟨g, o + k * 3 + 2, none⟩) hg (fun e => e)).trans c2
          have h1 := (hK2.cell (p := ⟨gp, op + y * 2 + 1, none⟩) hgp (fun e => e)).trans e1
          clear hK1 hK2 c0 c1 c2 d0 d1 d2 e0 e1
          go_wp2_with fail
          go_ret2
          exact ⟨by rw [hV2.out]; rfl, hb1.trans (hb2.mono hb1.size)⟩
  · have hV := Lib.hid (show valueT T node x = (ByteArray.empty, false) from by unfold valueT; rw [if_pos (.inl hc)])
    generalize checkT T = c at hck hc
    have hcb : (c != 0) = true := by simpa using hc
    have HCK := Lib.hid hck; clear hck hc
    go_enter Try.func77, Try.ntmps77
    go_wp2_with fail
    refine (HCK.out _ (by exact HT.out.new ((Below.refl w.heap.size w).alloc (Nat.le_refl _) _))).mono ?_
    rintro e w' ⟨rfl, hb⟩
    go_wp2_with fail
    go_ret2
    exact ⟨by rw [hV.out]; rfl, ((Below.refl _ _).alloc (Nat.le_refl _) _).trans (hb.mono (by simp))⟩
end Go.Proofs.Ytjfkjnakmmkkiaa
