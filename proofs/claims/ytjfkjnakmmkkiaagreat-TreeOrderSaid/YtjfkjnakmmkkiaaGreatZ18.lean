/- Contracts of package tree: path, Path, find, Find, begin. | Contracts of package tree: a child with a name, sought among the nodes. -/
import Derived.Test.YtjfkjnakmmkkiaaGreatZ6
import Derived.Test.YtjfkjnakmmkkiaaGreatZ9
import Derived.Test.YtjfkjnakmmkkiaaGreatZ1

namespace Go.Proofs.YtjfkjnakmmkkiaaGreat
open Go.RowKit

def foundT (T : List NodeT) (s : ByteArray) : Int × Bool := if 0 ≤ findT T s then (findT T s, true) else (0, false)
def rFindT (T : List NodeT) (s : ByteArray) : Int × Bool := if checkT T ≠ 0 then (0, false) else foundT T s
theorem foundT_yes {T : List NodeT} {s : ByteArray} {k : Nat} (h : findT T s = k) : foundT T s = ((k : Int), true) := by unfold foundT; rw [h, if_pos (by omega)]
theorem foundT_no {T : List NodeT} {s : ByteArray} (h : findT T s = -1) : foundT T s = (0, false) := by unfold foundT; rw [h, if_neg (by omega)]

set_option maxHeartbeats 1000000 in
theorem tree_path (R : Nat → Prop) (v : Value) (T : List NodeT) (u : Nat) (w : World) (hT : NodesIn R w v T) (hn : namedT T = true) (hu : u < T.length) (hl : T.length ≤ 120) :
    Calls Tryz.prog 98 #[.agg #[v], .int .i64 u] w fun e w' => e = .returned (.string (pathS T u)) ∧ Below w.heap.size w w' := by
  obtain ⟨a, cap, rfl, hc1, hc2⟩ := hT.shape
  have HT := Lib.hid hT; clear hT
  have HN := Lib.hid hn; clear hn
  by_cases h0 : u = 0
  · have h0' : ((u : Int) == 0) = true := by simp [h0]
    have hP := Lib.hid (show pathS T u = ⟨#[47]⟩ from by unfold pathS; rw [if_pos h0])
    clear h0
    go_enter Tryz.func98, Tryz.ntmps98
    go_wp2_with fail
    go_ret
    exact ⟨by rw [hP.out]; rfl, (Below.refl _ _).alloc (Nat.le_refl _) _⟩
  · have h0' : ((u : Int) == 0) = false := by simp; omega
    have hP := Lib.hid (show pathS T u = ⟨(flatP (pc T u)).toArray⟩ from by unfold pathS; rw [if_neg h0])
    have hfl := Lib.hid (flatP_len HN.out u u (Nat.le_refl _) hu)
    clear h0
    go_enter Tryz.func98, Tryz.ntmps98
    go_wp2_with fail
    go_loopg [1, 5] (u) (fun f x y wr => ∃ (k : Nat) (o : ByteArray), x = .int .i64 k ∧ y = .string o ∧ k ≤ f ∧ k ≤ u ∧ o.size ≤ 4000 ∧ Hid (flatP (pc T u) = flatP (pc T k) ++ o.data.toList) ∧
      ∃ n, (w.alloc (.cells #[.slice a T.length cap] 25)).drewN n = wr)
    case atStart => exact ⟨u, ByteArray.empty, rfl, rfl, Nat.le_refl _, Nat.le_refl _, by decide, by show _ = _; rw [show ByteArray.empty.data.toList = [] from rfl, List.append_nil], 0, rfl⟩
    case round =>
      obtain ⟨k, o, rfl, rfl, hf, hku, hos, hF, n, rfl⟩ := hrel
      by_cases hk0 : 0 < k
      · have hk : k < T.length := by omega
        obtain ⟨g, oo, pa, pc', rfl, hg, c0, c1, c2, hp, p1, p2, b0, b1, b2⟩ := HT.out.at k hk
        have hns := name_size HN.out k hk
        have hpl := parN_lt (par_of_named HN.out) hk0 hk
        have hpe := Lib.hid (show T[k].parent = ((parN T k : Nat) : Int) from by rw [hpl.2, parOf_at hk])
        obtain ⟨x1, hadd1, hx1, hd1⟩ := adds_of' ⟨#[47]⟩ T[k].name (by rw [show (⟨#[47]⟩ : ByteArray).size = 1 from rfl]; omega)
        rw [show (⟨#[47]⟩ : ByteArray).size = 1 from rfl] at hx1
        obtain ⟨x2, hadd2, hx2, hd2⟩ := adds_of' x1 o (by omega)
        have hF2 := Lib.hid (show flatP (pc T u) = flatP (pc T (parN T k)) ++ x2.data.toList from by
          rw [hF.out, pc_succ (par_of_named HN.out) hk0 hk, flatP_snoc, hd2, hd1, nameOf_at hk]; simp)
        have hx2s : x2.size ≤ 4000 := by
          have h1 := congrArg List.length hF2.out
          have h2 := hfl.out
          simp only [List.length_append] at h1
          have h3 : x2.data.toList.length = x2.size := by simp
          omega
        obtain ⟨hpl1, hpl2⟩ := hpl
        clear hp c2 hx1 hd1 hx2 hd2 hF hpl2
        generalize T[k].parent = pp at c0 hpe b1 b2
        have hpe2 := hpe.out
        subst hpe2
        generalize parN T k = pk at *
        have hk0' : (0 : Int) < (k : Int) := by omega
        go_wp2_with fail
        go_roundg (gk - 1)
        case measure => omega
        case rel => exact ⟨pk, x2, rfl, rfl, by omega, by omega, hx2s, hF2, n, rfl⟩
      · have hk1 : k = 0 := by omega
        subst hk1
        have hE := Lib.hid (show o = pathS T u from bytes_same (by rw [hP.out, hF.out, pc_zero]; rfl))
        clear hF
        go_wp2_with fail
        go_ret
        exact ⟨by rw [hE.out]; rfl, below_draws ((Below.refl _ _).alloc (Nat.le_refl _) _) n⟩

set_option maxHeartbeats 1000000 in
theorem tree_Path (R : Nat → Prop) (v : Value) (T : List NodeT) (node : Int) (w : World) (hT : NodesIn R w v T) :
    Calls Tryz.prog 38 #[.agg #[v], .int .i64 node] w fun e w' => e = .returned (.string (pathQ T node)) ∧ Below w.heap.size w w' := by
  obtain ⟨a, cap, rfl, hc1, hc2⟩ := hT.shape
  have HT := Lib.hid hT; clear hT
  have hck := fun wx hx => tree_Check R (.slice a T.length cap) T wx hx
  have hE := Lib.hid (show pathQ T node = if checkT T ≠ 0 ∨ node < 0 ∨ T.length ≤ node then ByteArray.empty else pathS T node.toNat from rfl)
  have hb0 : Below w.heap.size w (w.alloc (.cells #[.slice a T.length cap] 25)) := (Below.refl _ _).alloc (Nat.le_refl _) _
  have hB0 := Holds.new w #[.slice a T.length cap] 25
  by_cases hz : checkT T = 0
  · have hnm := check_named hz
    have hln := limits_len (check_limits hz)
    obtain ⟨hl1, hl2⟩ := hln
    by_cases hr : node < 0
    · have hX := Lib.hid (show pathQ T node = ByteArray.empty from by rw [hE.out, if_pos (.inr (.inl hr))])
      rw [hz] at hck
      have HCK := Lib.hid hck
      clear hck hz hnm
      go_enter Tryz.func38, Tryz.ntmps38
      go_wp2_with fail
      refine (HCK.out _ (by exact HT.out.new hb0)).mono ?_
      rintro e w1 ⟨rfl, hb1⟩
      go_wp2_with fail
      go_ret
      exact ⟨by rw [hX.out]; rfl, hb0.trans (hb1.mono (by simp))⟩
    · by_cases hr2 : (T.length : Int) ≤ node
      · have hX := Lib.hid (show pathQ T node = ByteArray.empty from by rw [hE.out, if_pos (.inr (.inr hr2))])
        rw [hz] at hck
        have HCK := Lib.hid hck
        have hr' : 0 ≤ node := by omega
        clear hck hz hnm hr
        go_enter Tryz.func38, Tryz.ntmps38
        go_wp2_with fail
        refine (HCK.out _ (by exact HT.out.new hb0)).mono ?_
        rintro e w1 ⟨rfl, hb1⟩
        have hB1 := hB0.keeps (Keeps.of_fresh hb1 (fun _ => False)) (fun e => e)
        have bx := hB1.cell 0
        have bl := hB1.lt
        go_wp2_with fail
        go_ret
        exact ⟨by rw [hX.out]; rfl, hb0.trans (hb1.mono (by simp))⟩
      · obtain ⟨k, rfl⟩ := Int.eq_ofNat_of_zero_le (show 0 ≤ node by omega)
        have hkl : k < T.length := by omega
        have hX := Lib.hid (show pathQ T k = pathS T k from by rw [hE.out, if_neg (by rintro (h | h); exact h hz; omega), Int.toNat_natCast])
        rw [hz] at hck
        have HCK := Lib.hid hck
        have hpt := Lib.hid (fun wx hx => tree_path R (.slice a T.length cap) T k wx hx hnm hkl hl2)
        have hr' : (k : Int) < (T.length : Int) := by omega
        clear hck hz hnm hr hr2
        go_enter Tryz.func38, Tryz.ntmps38
        go_wp2_with fail
        refine (HCK.out _ (by exact HT.out.new hb0)).mono ?_
        rintro e w1 ⟨rfl, hb1⟩
        have hB1 := hB0.keeps (Keeps.of_fresh hb1 (fun _ => False)) (fun e => e)
        have bx := hB1.cell 0
        have bl := hB1.lt
        have hb2 := hb0.trans (hb1.mono (by simp))
        go_wp2_with fail
        refine (hpt.out _ (by exact HT.out.new hb2)).mono ?_
        rintro e w2 ⟨rfl, hb3⟩
        go_wp2_with fail
        go_ret
        exact ⟨by rw [hX.out]; rfl, hb2.trans (hb3.mono hb2.size)⟩
  · have hz' : (checkT T != 0) = true := by simpa using hz
    have hX := Lib.hid (show pathQ T node = ByteArray.empty from by rw [hE.out, if_pos (.inl hz)])
    have HCK := Lib.hid hck
    clear hck hz
    generalize checkT T = c at *
    go_enter Tryz.func38, Tryz.ntmps38
    go_wp2_with fail
    refine (HCK.out _ (by exact HT.out.new hb0)).mono ?_
    rintro e w1 ⟨rfl, hb1⟩
    go_wp2_with fail
    go_ret
    exact ⟨by rw [hX.out]; rfl, hb0.trans (hb1.mono (by simp))⟩

set_option maxHeartbeats 1000000 in
theorem tree_find (R : Nat → Prop) (v : Value) (T : List NodeT) (s : ByteArray) (w : World) (hT : NodesIn R w v T) (hn : namedT T = true) (hl : T.length ≤ 120) :
    Calls Tryz.prog 101 #[.agg #[v], .string s] w fun e w' => e = .returned (.tuple #[.int .i64 (foundT T s).1, .bool (foundT T s).2]) ∧ Below w.heap.size w w' := by
  obtain ⟨a, cap, rfl, hc1, hc2⟩ := hT.shape
  have HT := Lib.hid hT; clear hT
  have HP := Lib.hid (fun (k : Nat) (hk : k < T.length) wx hx => tree_path R (.slice a T.length cap) T k wx hx hn hk hl)
  clear hn
  go_enter Tryz.func101, Tryz.ntmps101
  go_wp2_with fail
  go_loopg [10] (T.length) (fun f x wr => ∃ k : Nat, x = .int .i64 k ∧ k ≤ T.length ∧ T.length ≤ k + f ∧ Hid (∀ q : Nat, q < k → eqS (pathS T q) s = false) ∧ Below w.heap.size w wr ∧ Holds wr w.heap.size #[.slice a T.length cap] 25)
  case atStart => exact ⟨0, rfl, by omega, by omega, (fun q h => absurd h (Nat.not_lt_zero q) : ∀ q : Nat, q < 0 → eqS (pathS T q) s = false), (Below.refl _ _).alloc (Nat.le_refl _) _, Holds.new w _ _⟩
  case round =>
    obtain ⟨k, rfl, hk, hf, hF, hb, hB⟩ := hrel
    have hbs := hb.size
    have bx := hB.cell 0
    have bl := hB.lt
    by_cases hlt : k < T.length
    · cases he : ((pathS T k).toList == s.toList) with
      | true =>
        have hX := Lib.hid (foundT_yes (findT_yes hlt he hF.out))
        go_wp2_with fail
        refine (HP.out k hlt _ (by exact HT.out.new hb)).mono ?_
        rintro e w1 ⟨rfl, hb1⟩
        go_wp2_with fail
        go_ret2
        exact ⟨by rw [hX.out]; rfl, hb.trans (hb1.mono hbs)⟩
      | false =>
        have hF2 := Lib.hid (show ∀ q : Nat, q < k + 1 → eqS (pathS T q) s = false from fun q hq => by
          by_cases e : q = k
          · subst e; exact he
          · exact hF.out q (by omega))
        go_wp2_with fail
        refine (HP.out k hlt _ (by exact HT.out.new hb)).mono ?_
        rintro e w1 ⟨rfl, hb1⟩
        have hB1 := hB.keeps (Keeps.of_fresh hb1 (fun _ => False)) (fun e => e)
        go_wp2_with fail
        go_roundg (gk - 1)
        case measure => omega
        case rel => exact ⟨k + 1, by go_num, by omega, by omega, hF2, hb.trans (hb1.mono hbs), hB1⟩
    · have hX := Lib.hid (foundT_no (findT_no (s := s) (by have := hF.out; rwa [show k = T.length from by omega] at this)))
      go_wp2_with fail
      go_ret2
      exact ⟨by rw [hX.out]; rfl, hb⟩


set_option maxHeartbeats 1000000 in
theorem tree_begin (R : Nat → Prop) (v : Value) (T : List NodeT) (s : ByteArray) (w : World) (hT : NodesIn R w v T) :
    Calls Tryz.prog 107 #[.agg #[v], .string s] w fun e w' => e = .returned (.tuple #[.int .i64 (rBeginT T s).1, .int .i64 (rBeginT T s).2]) ∧ Below w.heap.size w w' := by
  obtain ⟨a, cap, rfl, hc1, hc2⟩ := hT.shape
  have HT := Lib.hid hT; clear hT
  have hck := fun wx hx => tree_Check R (.slice a T.length cap) T wx hx
  have hE := Lib.hid (show rBeginT T s = if checkT T ≠ 0 then (0, checkT T) else if 0 ≤ findT T s then (findT T s, 0) else (0, 4) from rfl)
  have hb0 : Below w.heap.size w (w.alloc (.cells #[.slice a T.length cap] 25)) := (Below.refl _ _).alloc (Nat.le_refl _) _
  have hB0 := Holds.new w #[.slice a T.length cap] 25
  by_cases hz : checkT T = 0
  · have hnm := check_named hz
    have hl2 := (limits_len (check_limits hz)).2
    have hpt := Lib.hid (fun wx hx => tree_find R (.slice a T.length cap) T s wx hx hnm hl2)
    have hbd := findT_bd T s
    have hft := Lib.hid (show foundT T s = if 0 ≤ findT T s then (findT T s, true) else (0, false) from rfl)
    by_cases hf : 0 ≤ findT T s
    · have hX := Lib.hid (show rBeginT T s = (findT T s, 0) from by rw [hE.out, if_neg (by simp [hz]), if_pos hf])
      rw [hz] at hck
      have HCK := Lib.hid hck
      clear hck hz hnm hE hbd
      rw [hft.out] at hpt
      generalize findT T s = x at *
      go_enter Tryz.func107, Tryz.ntmps107
      go_wp2_with fail
      refine (HCK.out _ (by exact HT.out.new hb0)).mono ?_
      rintro e w1 ⟨rfl, hb1⟩
      have hB1 := hB0.keeps (Keeps.of_fresh hb1 (fun _ => False)) (fun e => e)
      have bx := hB1.cell 0
      have bl := hB1.lt
      have hb2 := hb0.trans (hb1.mono (by simp))
      go_wp2_with fail
      refine (hpt.out _ (by exact HT.out.new hb2)).mono ?_
      rintro e w2 ⟨rfl, hb3⟩
      go_wp2_with fail
      go_ret2
      exact ⟨by rw [hX.out]; rfl, hb2.trans (hb3.mono hb2.size)⟩
    · have hX := Lib.hid (show rBeginT T s = (0, 4) from by rw [hE.out, if_neg (by simp [hz]), if_neg hf])
      have hf' : findT T s < 0 := by omega
      rw [hz] at hck
      have HCK := Lib.hid hck
      clear hck hz hnm hE hbd hf
      rw [hft.out] at hpt
      generalize findT T s = x at *
      go_enter Tryz.func107, Tryz.ntmps107
      go_wp2_with fail
      refine (HCK.out _ (by exact HT.out.new hb0)).mono ?_
      rintro e w1 ⟨rfl, hb1⟩
      have hB1 := hB0.keeps (Keeps.of_fresh hb1 (fun _ => False)) (fun e => e)
      have bx := hB1.cell 0
      have bl := hB1.lt
      have hb2 := hb0.trans (hb1.mono (by simp))
      go_wp2_with fail
      refine (hpt.out _ (by exact HT.out.new hb2)).mono ?_
      rintro e w2 ⟨rfl, hb3⟩
      go_wp2_with fail
      go_ret2
      exact ⟨by rw [hX.out]; rfl, hb2.trans (hb3.mono hb2.size)⟩
  · have hz' : (checkT T != 0) = true := by simpa using hz
    have hX := Lib.hid (show rBeginT T s = (0, checkT T) from by rw [hE.out, if_pos hz])
    have HCK := Lib.hid hck
    clear hck hz hE
    generalize checkT T = c at *
    go_enter Tryz.func107, Tryz.ntmps107
    go_wp2_with fail
    refine (HCK.out _ (by exact HT.out.new hb0)).mono ?_
    rintro e w1 ⟨rfl, hb1⟩
    go_wp2_with fail
    go_ret2
    exact ⟨by rw [hX.out]; rfl, hb0.trans (hb1.mono (by simp))⟩

set_option maxHeartbeats 1000000 in
theorem tree_Find (R : Nat → Prop) (v : Value) (T : List NodeT) (s : ByteArray) (w : World) (hT : NodesIn R w v T) :
    Calls Tryz.prog 46 #[.agg #[v], .string s] w fun e w' => e = .returned (.tuple #[.int .i64 (rFindT T s).1, .bool (rFindT T s).2]) ∧ Below w.heap.size w w' := by
  obtain ⟨a, cap, rfl, hc1, hc2⟩ := hT.shape
  have HT := Lib.hid hT; clear hT
  have hck := fun wx hx => tree_Check R (.slice a T.length cap) T wx hx
  have hb0 : Below w.heap.size w (w.alloc (.cells #[.slice a T.length cap] 25)) := (Below.refl _ _).alloc (Nat.le_refl _) _
  have hB0 := Holds.new w #[.slice a T.length cap] 25
  by_cases hz : checkT T = 0
  · have hnm := check_named hz
    have hl2 := (limits_len (check_limits hz)).2
    have hpt := Lib.hid (fun wx hx => tree_find R (.slice a T.length cap) T s wx hx hnm hl2)
    have hX := Lib.hid (show rFindT T s = foundT T s from by unfold rFindT; rw [if_neg (by simp [hz])])
    rw [hz] at hck
    have HCK := Lib.hid hck
    clear hck hz hnm
    go_enter Tryz.func46, Tryz.ntmps46
    go_wp2_with fail
    refine (HCK.out _ (by exact HT.out.new hb0)).mono ?_
    rintro e w1 ⟨rfl, hb1⟩
    have hB1 := hB0.keeps (Keeps.of_fresh hb1 (fun _ => False)) (fun e => e)
    have bx := hB1.cell 0
    have bl := hB1.lt
    have hb2 := hb0.trans (hb1.mono (by simp))
    go_wp2_with fail
    refine (hpt.out _ (by exact HT.out.new hb2)).mono ?_
    rintro e w2 ⟨rfl, hb3⟩
    generalize foundT T s = x at *
    go_wp2_with fail
    go_ret2
    exact ⟨by rw [hX.out]; rfl, hb2.trans (hb3.mono hb2.size)⟩
  · have hz' : (checkT T != 0) = true := by simpa using hz
    have hX := Lib.hid (show rFindT T s = (0, false) from by unfold rFindT; rw [if_pos hz])
    have HCK := Lib.hid hck
    clear hck hz
    generalize checkT T = c at *
    go_enter Tryz.func46, Tryz.ntmps46
    go_wp2_with fail
    refine (HCK.out _ (by exact HT.out.new hb0)).mono ?_
    rintro e w1 ⟨rfl, hb1⟩
    go_wp2_with fail
    go_ret2
    exact ⟨by rw [hX.out]; rfl, hb0.trans (hb1.mono (by simp))⟩
end Go.Proofs.YtjfkjnakmmkkiaaGreat

namespace Go.Proofs.YtjfkjnakmmkkiaaGreat
open Go.RowKit

def kidAt (T : List NodeT) (k : Int) (s : ByteArray) : Int := match T.findIdx? (sameKid k s) with
  | some i => (i : Int)
  | none => -1

set_option maxHeartbeats 1000000 in
theorem tree_Add1 (nd : NodeT) (pv : Value) (k : Int) (s : ByteArray) (kb sb : Nat) (w : World) (hK : Holds w kb #[.int .i64 k] 3) (hS : Holds w sb #[.string s] 9) :
    Calls Tryz.prog 112 #[.agg #[.int .i64 nd.parent, .string nd.name, pv], .pointer (some ⟨kb, 0, none⟩), .pointer (some ⟨sb, 0, none⟩)] w fun e w' => e = .returned (.bool (sameKid k s nd)) ∧ Below w.heap.size w w' := by
  have k0 := hK.cell 0
  have kl := hK.lt
  have s0 := hS.cell 0
  have sl := hS.lt
  have hE := Lib.hid (show sameKid k s nd = (decide (nd.parent = k) && eqS nd.name s) from rfl)
  by_cases h1 : nd.parent = k
  · have h1' : (nd.parent == k) = true := by simp [h1]
    have hd : decide (nd.parent = k) = true := by simp [h1]
    rw [hd] at hE
    clear h1 hd
    cases h2 : (nd.name.toList == s.toList) with
    | true =>
      go_enter Tryz.func112, Tryz.ntmps112
      go_wp2_with fail
      go_ret
      exact ⟨ret_bool (by rw [hE.out]; unfold eqS; rw [h2]; rfl), (Below.refl _ _).alloc (Nat.le_refl _) _⟩
    | false =>
      go_enter Tryz.func112, Tryz.ntmps112
      go_wp2_with fail
      go_ret
      exact ⟨ret_bool (by rw [hE.out]; unfold eqS; rw [h2]; rfl), (Below.refl _ _).alloc (Nat.le_refl _) _⟩
  · have h1' : (nd.parent == k) = false := by simpa using h1
    have hd : decide (nd.parent = k) = false := by simpa using h1
    rw [hd] at hE
    clear h1 hd
    go_enter Tryz.func112, Tryz.ntmps112
    go_wp2_with fail
    go_ret
    exact ⟨ret_bool (by rw [hE.out]; rfl), (Below.refl _ _).alloc (Nat.le_refl _) _⟩
theorem enters_Add1 : ∀ args w, (callFunc 112 args).run Tryz.prog w = .ok (.enter 112 args) w := enters_of Tryz.func112 (by kernel_rfl) rfl

set_option maxHeartbeats 1000000 in
theorem nodes_IndexFunc (R : Nat → Prop) (v : Value) (T : List NodeT) (k : Int) (s : ByteArray) (kb sb : Nat) (w : World) (hT : NodesIn R w v T) (hl : T.length ≤ 1000) (hK : Holds w kb #[.int .i64 k] 3) (hS : Holds w sb #[.string s] 9) :
    Calls Tryz.prog 139 #[v, .func (.func 112) #[] #[.pointer (some ⟨kb, 0, none⟩), .pointer (some ⟨sb, 0, none⟩)]] w
      fun e w' => e = .returned (.int .i64 (kidAt T k s)) ∧ Below w.heap.size w w' := by
  obtain ⟨a, cap, rfl, hc1, hc2⟩ := hT.shape
  have HT := Lib.hid hT; clear hT
  have HK := Lib.hid hK; clear hK
  have HS := Lib.hid hS; clear hS
  have eg := enters_Add1
  go_enter Tryz.func139, Tryz.ntmps139
  go_wp2_with fail
  go_loopg [8] (T.length) (fun f x wr => ∃ j : Nat, x = .int .i64 j ∧ j ≤ T.length ∧ T.length ≤ j + f ∧ Hid (∀ i (h : i < T.length), i < j → sameKid k s T[i] = false) ∧ Below w.heap.size w wr)
  case atStart => exact ⟨0, rfl, by omega, by omega, fun i h h2 => absurd h2 (by omega), Below.refl _ _⟩
  case round =>
    obtain ⟨j, rfl, hj, hf, hN, hb⟩ := hrel
    have hbs := hb.size
    by_cases hlt : j < T.length
    · have hKw : Keeps (fun _ => False) w wr := Keeps.of_fresh hb _
      obtain ⟨g, o, pa, pc, rfl, hg, c0, c1, c2, -, -, -, -, -, -⟩ := (HT.out.new hb).at j hlt
      have hK1 := HK.out.keeps hKw (fun e => e)
      have hS1 := HS.out.keeps hKw (fun e => e)
      have hin := tree_Add1 T[j] (.slice pa T[j].props.length pc) k s kb sb wr hK1 hS1
      cases hy : sameKid k s T[j] with
      | true =>
        rw [hy] at hin
        have HIN := Lib.hid hin; clear hin
        have hfin := Lib.hid (show (kidAt T k s) = j from by
          have : T.findIdx? (sameKid k s) = some j := by
            rw [List.findIdx?_eq_some_iff_getElem]
            exact ⟨hlt, hy, fun i hi => by have := hN.out i (by omega) hi; rw [this]; simp⟩
          unfold kidAt; rw [this])
        clear hy hKw hK1 hS1
        go_wp2_with fail
        refine (HIN.out).mono ?_
        rintro e w' ⟨rfl, hb'⟩
        go_wp2_with fail
        go_ret
        exact ⟨ret_int (by rw [hfin.out]), hb.trans (hb'.mono hbs)⟩
      | false =>
        rw [hy] at hin
        have HIN := Lib.hid hin; clear hin
        have HY := Lib.hid hy
        clear hy hKw hK1 hS1
        go_wp2_with fail
        refine (HIN.out).mono ?_
        rintro e w' ⟨rfl, hb'⟩
        go_wp2_with fail
        go_roundg (gk - 1)
        case measure => omega
        case rel =>
          refine ⟨j + 1, by go_num, by omega, by omega, ?_, hb.trans (hb'.mono hbs)⟩
          intro i hi hik
          by_cases e : i = j
          · subst e; exact HY.out
          · exact hN.out i hi (by omega)
    · have hfin := Lib.hid (show (kidAt T k s) = -1 from by
        have : T.findIdx? (sameKid k s) = none := by
          rw [List.findIdx?_eq_none_iff]
          intro x hx
          obtain ⟨i, hi, e⟩ := List.getElem_of_mem hx
          rw [← e]; exact hN.out i hi (by omega)
        unfold kidAt; rw [this])
      go_wp2_with fail
      go_ret
      exact ⟨ret_int (by rw [hfin.out]), hb⟩

set_option maxHeartbeats 1000000 in
theorem nodes_ContainsFunc (R : Nat → Prop) (v : Value) (T : List NodeT) (k : Int) (s : ByteArray) (kb sb : Nat) (w : World) (hT : NodesIn R w v T) (hl : T.length ≤ 1000) (hK : Holds w kb #[.int .i64 k] 3) (hS : Holds w sb #[.string s] 9) :
    Calls Tryz.prog 111 #[v, .func (.func 112) #[] #[.pointer (some ⟨kb, 0, none⟩), .pointer (some ⟨sb, 0, none⟩)]] w
      fun e w' => e = .returned (.bool (T.any (sameKid k s))) ∧ Below w.heap.size w w' := by
  have hi := nodes_IndexFunc R v T k s kb sb w hT hl hK hS
  have hany : decide ((kidAt T k s) ≥ 0) = T.any (sameKid k s) := by
    unfold kidAt
    cases h : T.findIdx? (sameKid k s) with
    | none =>
      rw [List.findIdx?_eq_none_iff] at h
      have : T.any (sameKid k s) = false := by rw [List.any_eq_false]; intro x hx; rw [h x hx]; simp
      rw [this]; simp
    | some i =>
      rw [List.findIdx?_eq_some_iff_getElem] at h
      obtain ⟨h1, h2, _⟩ := h
      have : T.any (sameKid k s) = true := List.any_eq_true.2 ⟨_, List.getElem_mem h1, h2⟩
      rw [this]; simp
  have HA := Lib.hid hany
  generalize kidAt T k s = x at *
  have HI := Lib.hid hi
  clear hi hany hT hK hS
  go_enter Tryz.func111, Tryz.ntmps111
  go_wp2_with fail
  refine (HI.out).mono ?_
  rintro e w' ⟨rfl, hb'⟩
  go_wp2_with fail
  go_ret
  exact ⟨ret_bool (by rw [← HA.out]), hb'⟩
end Go.Proofs.YtjfkjnakmmkkiaaGreat
