/- Contracts of bringupref03: Value, Find. -/
import Derived.Test.YtjfkjnakmmkkiaaGreatZ7
import Derived.Test.YtjfkjnakmmkkiaaGreatZ23
import Derived.Test.YtjfkjnakmmkkiaaGreatZ18
import Derived.Test.YtjfkjnakmmkkiaaGreatZ6

namespace Go.Proofs.YtjfkjnakmmkkiaaGreat
open Go.RowKit

set_option maxHeartbeats 2000000 in
theorem ref3_Value (R : Nat → Prop) (v : Value) (T : List NodeT) (node : Int) (x : ByteArray) (w : World) (hT : NodesIn R w v T) :
    Calls Tryz.prog 44 #[.agg #[v], .int .i64 node, .string x] w (ValuePost T node x w) := by
  have hT0 := hT.shape
  obtain ⟨a, cap, rfl, hc1, hc2⟩ := hT0
  have HT := Lib.hid hT; clear hT
  have hck := fun wx hx => ref3_Check R (.slice a T.length cap) T wx hx
  unfold ValuePost
  by_cases hc : checkT T = 0
  · rw [hc] at hck
    have HCK := Lib.hid hck; clear hck
    have HC := Lib.hid hc
    by_cases hn : node < 0
    · have hV := Lib.hid (show valueT T node x = (ByteArray.empty, false) from by unfold valueT; rw [if_pos (.inr (.inl hn))])
      clear hc
      go_enter Tryz.func44, Tryz.ntmps44
      go_wp2_with fail
      refine (HCK.out _ (by exact HT.out.new ((Below.refl w.heap.size w).alloc (Nat.le_refl _) _))).mono ?_
      rintro e w' ⟨rfl, hb⟩
      go_wp2_with fail
      go_ret2
      exact ⟨by rw [hV.out]; rfl, ((Below.refl _ _).alloc (Nat.le_refl _) _).trans (hb.mono (by simp))⟩
    · by_cases hbig : (T.length : Int) ≤ node
      · have hV := Lib.hid (show valueT T node x = (ByteArray.empty, false) from by unfold valueT; rw [if_pos (.inr (.inr hbig))])
        clear hc
        have hn' : 0 ≤ node := by omega
        go_enter Tryz.func44, Tryz.ntmps44
        go_wp2_with fail
        refine (HCK.out _ (by exact HT.out.new ((Below.refl w.heap.size w).alloc (Nat.le_refl _) _))).mono ?_
        rintro e w' ⟨rfl, hb⟩
        have hB := (Holds.new w #[.slice a T.length cap] 25).keeps (Keeps.of_fresh hb (fun _ => False)) (fun e => e)
        have bx := hB.cell 0
        have blt := hB.lt
        go_wp2_with fail
        go_ret2
        exact ⟨by rw [hV.out]; rfl, ((Below.refl _ _).alloc (Nat.le_refl _) _).trans (hb.mono (by simp))⟩
      · obtain ⟨k, rfl⟩ := Int.eq_ofNat_of_zero_le (show 0 ≤ node by omega)
        have hk : k < T.length := by omega
        have hkb : decide (T.length ≤ k) = false := by simp; omega
        have hV := Lib.hid (show valueT T k x = (if hasT T[k].props x = true then (match T[k].props[lowT T[k].props x]? with | some p => p.value | none => ByteArray.empty, true) else (ByteArray.empty, false)) from by
          unfold valueT
          rw [if_neg (by rintro (h | h | h); exact h hc; omega; omega), Int.toNat_natCast, List.getElem?_eq_getElem hk]
          rfl)
        have hasc := check_asc hc T[k] (List.getElem_mem hk)
        have hV2 := Lib.hid (show valueT T k x = ofT T[k].props x from hV.out.trans (of_low hasc).symm)
        clear hc hn hbig hV hasc
        obtain ⟨g, o, pa, pc, rfl, hg, c0, c1, c2, hp, p1, p2, b0, b1, b2⟩ := HT.out.at k hk
        have hof := Lib.hid (fun (wx : World) (hx : PropsIn R wx (.slice pa T[k].props.length pc) T[k].props) => ref3_Of R T[k].parent T[k].name (.slice pa T[k].props.length pc) T[k].props x wx hx)
        have HP := Lib.hid hp
        have hki : (k : Int) < (T.length : Int) := by omega
        clear hp
        generalize ofT T[k].props x = V at *
        obtain ⟨vs, vb⟩ := V
        go_enter Tryz.func44, Tryz.ntmps44
        go_wp2_with fail
        refine (HCK.out _ (by exact HT.out.new ((Below.refl w.heap.size w).alloc (Nat.le_refl _) _))).mono ?_
        rintro e w1 ⟨rfl, hb⟩
        have hK1 := ((Keeps.refl (fun _ => False) w).alloc (.cells #[.slice (some ⟨g, o, none⟩) T.length cap] 25)).trans (Keeps.of_fresh hb (fun _ => False)) (fun _ _ e => e)
        have hB := (Holds.new w #[.slice (some ⟨g, o, none⟩) T.length cap] 25).keeps (Keeps.of_fresh hb (fun _ => False)) (fun e => e)
        have bx := hB.cell 0
        have blt := hB.lt
        have d0 := (hK1.cell (p := ⟨g, o + k * 3, none⟩) hg (fun e => e)).trans c0
        have d1 := (hK1.cell (p := ⟨g, o + k * 3 + 1, none⟩) hg (fun e => e)).trans c1
        have d2 := (hK1.cell (p := ⟨g, o + k * 3 + 2, none⟩) hg (fun e => e)).trans c2
        have HP1 := Lib.hid (HP.out.keeps hK1 (fun _ _ e => e))
        have hb1 : Below w.heap.size w w1 := hK1.below (Nat.le_refl _) (fun _ _ e => e)
        clear hK1 c0 c1 c2
        go_wp2_with fail
        refine (hof.out _ (by exact HP1.out)).mono ?_
        rintro e w2 ⟨rfl, hb2⟩
        go_wp2_with fail
        go_ret2
        exact ⟨by rw [hV2.out]; rfl, hb1.trans (hb2.mono hb1.size)⟩
  · have hV := Lib.hid (show valueT T node x = (ByteArray.empty, false) from by unfold valueT; rw [if_pos (.inl hc)])
    generalize checkT T = c at hck hc
    have hcb : (c != 0) = true := by simpa using hc
    have HCK := Lib.hid hck; clear hck hc
    go_enter Tryz.func44, Tryz.ntmps44
    go_wp2_with fail
    refine (HCK.out _ (by exact HT.out.new ((Below.refl w.heap.size w).alloc (Nat.le_refl _) _))).mono ?_
    rintro e w' ⟨rfl, hb⟩
    go_wp2_with fail
    go_ret2
    exact ⟨by rw [hV.out]; rfl, ((Below.refl _ _).alloc (Nat.le_refl _) _).trans (hb.mono (by simp))⟩
set_option maxHeartbeats 1000000 in
theorem ref3_Find (R : Nat → Prop) (v : Value) (T : List NodeT) (s : ByteArray) (w : World) (hT : NodesIn R w v T) :
    Calls Tryz.prog 47 #[.agg #[v], .string s] w fun e w' => e = .returned (.tuple #[.int .i64 (rFindT T s).1, .bool (rFindT T s).2]) ∧ Below w.heap.size w w' := by
  obtain ⟨a, cap, rfl, hc1, hc2⟩ := hT.shape
  have HT := Lib.hid hT; clear hT
  have hck := fun wx hx => ref3_Check R (.slice a T.length cap) T wx hx
  have hb0 : Below w.heap.size w (w.alloc (.cells #[.slice a T.length cap] 25)) := (Below.refl _ _).alloc (Nat.le_refl _) _
  have hB0 := Holds.new w #[.slice a T.length cap] 25
  by_cases hz : checkT T = 0
  · have hnm := check_named hz
    have hl2 := (limits_len (check_limits hz)).2
    have hpt := Lib.hid (fun wx hx => ref3_find R (.slice a T.length cap) T s wx hx hnm hl2)
    have hX := Lib.hid (show rFindT T s = foundT T s from by unfold rFindT; rw [if_neg (by simp [hz])])
    rw [hz] at hck
    have HCK := Lib.hid hck
    clear hck hz hnm
    go_enter Tryz.func47, Tryz.ntmps47
    go_wp2_with fail
    refine (HCK.out _ (by exact HT.out.new hb0)).mono ?_
    rintro e w1 ⟨rfl, hb1⟩
    have hB1 := hB0.keeps (Keeps.of_fresh hb1 (fun _ => False)) (fun e => e)
    have bx := hB1.cell 0
    have bl := hB1.lt
    have hb2 := hb0.trans (hb1.mono (by simp))
    go_wp2_with fail
    refine (hpt.out _ (by exact HT.out.new hb2)).mono ?_
    rintro e w2 ⟨rfl, hb3⟩
    have hfd := Lib.hid (show foundT T s = if 0 ≤ findT T s then (findT T s, true) else (0, false) from rfl)
    have hbd : -1 ≤ findT T s := by rcases findT_bd T s with h | ⟨i, _, h, _⟩ <;> omega
    generalize findT T s = x at *
    by_cases hx : 0 ≤ x
    · have hF := Lib.hid (show foundT T s = (x, true) from by rw [hfd.out, if_pos hx])
      go_wp2_with fail
      go_ret2
      have hmx : max x 0 = x := by omega
      exact ⟨by rw [hX.out, hF.out]; show Ending.returned (.tuple #[.int .i64 (max x 0), .bool true]) = _; rw [hmx], hb2.trans (hb3.mono hb2.size)⟩
    · have hF := Lib.hid (show foundT T s = (0, false) from by rw [hfd.out, if_neg hx])
      obtain rfl : x = -1 := by omega
      go_wp2_with fail
      go_ret2
      exact ⟨by rw [hX.out, hF.out]; rfl, hb2.trans (hb3.mono hb2.size)⟩
  · have hz' : (checkT T != 0) = true := by simpa using hz
    have hX := Lib.hid (show rFindT T s = (0, false) from by unfold rFindT; rw [if_pos hz])
    have HCK := Lib.hid hck
    clear hck hz
    generalize checkT T = c at *
    go_enter Tryz.func47, Tryz.ntmps47
    go_wp2_with fail
    refine (HCK.out _ (by exact HT.out.new hb0)).mono ?_
    rintro e w1 ⟨rfl, hb1⟩
    go_wp2_with fail
    go_ret2
    exact ⟨by rw [hX.out]; rfl, hb0.trans (hb1.mono (by simp))⟩
end Go.Proofs.YtjfkjnakmmkkiaaGreat
