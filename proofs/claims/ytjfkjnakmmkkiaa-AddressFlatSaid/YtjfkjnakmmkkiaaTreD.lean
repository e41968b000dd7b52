/- Contracts of tree: walked. -/
import Derived.Test.YtjfkjnakmmkkiaaTreC
import Derived.Laws.MakeOwn
import Derived.OwnWalk
namespace Go.Proofs.Ytjfkjnakmmkkiaa
open Go.RowKit

theorem madeCells_one (z : Value) (n : Nat) : madeCells #[z] n = Array.replicate n z := by
  unfold madeCells
  apply Array.ext
  · simp
  · intro i h1 h2
    simp [Nat.mod_one]
theorem infoStr : (Try.prog.info? 9).map (fun i => (i.zero, i.size, i.bytes)) = some (some (.string ⟨#[]⟩), 1, 16) := by kernel_rfl
theorem make_strs (n : Nat) (hn : n ≤ 1000) (wx : World) : (Instr.makeSlice 83 (.int .i64 n) (.int .i64 n)).run Try.prog wx = .ok (.slice (some ⟨wx.heap.size, 0, none⟩) n n) (wx.alloc (.cells (Array.replicate n (.string ⟨#[]⟩)) 9)) := by
  obtain ⟨i0, hi, hz0, hz1, hz2⟩ := info_parts infoStr
  have := run_make (P := Try.prog) wx 83 9 i0 _ Try.underlying83 hi hz0 .i64 .i64 n n (by omega) (by omega) (by rw [hz2]; omega) (by omega)
  rw [this, hz1, show (Value.string ⟨#[]⟩).cells = #[.string ⟨#[]⟩] from rfl]
  simp [madeCells_one]
def strCells (l : List ByteArray) : Array Value := (l.map Value.string).toArray
theorem strCells_at (l : List ByteArray) (k : Nat) (h : k < l.length) : (strCells l)[k]? = some (.string l[k]) := by simp [strCells, h]
theorem strCells_set (l : List ByteArray) (k : Nat) (s : ByteArray) : (strCells l).setIfInBounds k (.string s) = strCells (l.set k s) := by simp [strCells, List.map_set]

theorem asc_nil {l : List PropT} (h : l.length ≤ 1) : ascT l = true := by
  match l with
  | [] => rfl
  | [_] => rfl
  | a :: b :: r => simp at h
theorem asc_two (l : List PropT) (j : Nat) (h0 : 1 ≤ j) (h : j < l.length) : ascT (l.drop (j - 1)) = (ltS (l[j - 1]'(by omega)).name l[j].name && ascT (l.drop j)) := by
  obtain ⟨i, rfl⟩ : ∃ i, j = i + 1 := ⟨j - 1, by omega⟩
  simp only [Nat.add_sub_cancel]
  rw [List.drop_eq_getElem_cons (show i < l.length by omega), List.drop_eq_getElem_cons h]
  rfl
theorem walkedF_cons (T : List NodeT) (i : Nat) (last : List ByteArray) (n : NodeT) (r : List NodeT) : walkedF T i last (n :: r) = (ascT n.props && (if i = 0 then walkedF T 1 last r else
      (decide (0 ≤ upT3 T n.parent (i + 1) (i - 1)) && !ltS n.name (last.getD (upT3 T n.parent (i + 1) (i - 1)).toNat ByteArray.empty) && walkedF T (i + 1) (last.set (upT3 T n.parent (i + 1) (i - 1)).toNat n.name) r))) := rfl

set_option maxHeartbeats 4000000 in
theorem tree_walked (R : Nat → Prop) (v : Value) (T : List NodeT) (w : World) (hT : NodesIn R w v T) (hn : namedT T = true) (hl : T.length ≤ 1000) :
    Calls Try.prog 75 #[.agg #[v]] w fun e w' => e = .returned (.bool (walkedT T)) ∧ Below w.heap.size w w' := by
  obtain ⟨a, cap, rfl, hc1, hc2⟩ := hT.shape
  have HT := Lib.hid hT; clear hT
  have HNM := Lib.hid hn; clear hn
  have hmk := make_strs T.length hl
  go_enter Try.func75, Try.ntmps75
  go_wp2_with fail
  clear hmk
  go_loopg [15] (T.length) (fun f x wr => ∃ (k : Nat) (last : List ByteArray), x = .int .i64 k ∧ k ≤ T.length ∧ T.length ≤ k + f ∧ last.length = T.length ∧ Hid (walkedT T = walkedF T k last (T.drop k)) ∧ Below w.heap.size w wr ∧
    Holds wr w.heap.size #[.slice a T.length cap] 27 ∧ Holds wr (w.heap.size + 1) (strCells last) 9)
  case atStart =>
    refine ⟨0, List.replicate T.length ByteArray.empty, rfl, by omega, by omega, by simp, by simp [Hid, walkedT], ((Below.refl _ _).alloc (Nat.le_refl _) _).alloc (by simp) _, (Holds.new w _ _).alloc _, ?_⟩
    have := Holds.new (w.alloc (.cells #[.slice a T.length cap] 27)) (Array.replicate T.length (.string ⟨#[]⟩)) 9
    rw [show (w.alloc (.cells #[.slice a T.length cap] 27)).heap.size = w.heap.size + 1 from by simp] at this
    rw [show strCells (List.replicate T.length ByteArray.empty) = Array.replicate T.length (.string ⟨#[]⟩) from by simp [strCells]; right; rfl]
    exact this
  case round =>
    obtain ⟨go, rfl⟩ : ∃ x : Nat, x = gk := ⟨_, rfl⟩
    obtain ⟨k, last, rfl, hk, hf, hll, hW, hb, hB, hS⟩ := hrel
    have hbs := hb.size
    have bx0 := hB.cell 0
    have blt := hB.lt
    have slt := hS.lt
    by_cases hlt : k < T.length
    · obtain ⟨g, o, pa, pc, rfl, hg, c0, c1, c2, hp, p1, p2, b0, b1, b2⟩ := (HT.out.new hb).at k hlt
      have HPn := Lib.hid hp; clear hp
      have hstep := Lib.hid (show walkedF T k last (T.drop k) = walkedF T k last (T[k] :: T.drop (k + 1)) from by rw [List.drop_eq_getElem_cons hlt])
      have hpar := named_par HNM.out k hlt
      have HPAR := Lib.hid hpar; clear hpar
      have hnb := Holds.new wr #[.int .i64 T[k].parent, .string T[k].name, .slice pa T[k].props.length pc] 42
      go_wp2_with fail
      go_loopg [6] (T[k].props.length) (fun f x wx => ∃ (j m : Nat), x = .int .i64 j ∧ 1 ≤ j ∧ T[k].props.length ≤ j + f ∧ (1 < j → j ≤ T[k].props.length) ∧ Hid (ascT T[k].props = ascT (T[k].props.drop (j - 1))) ∧
        wx = (wr.alloc (.cells #[.int .i64 T[k].parent, .string T[k].name, .slice pa T[k].props.length pc] 42)).drewN m)
      case atStart => exact ⟨1, 0, rfl, by omega, by omega, by omega, by simp [Hid], rfl⟩
      case round =>
        obtain ⟨j, m, rfl, hj1, hf2, hj2, hA, rfl⟩ := hrel
        by_cases hjl : j < T[k].props.length
        · obtain ⟨gp, op, e1, hgp, d0, d1, d2, d3⟩ := HPn.out.at j hjl
          obtain ⟨gq, oq, e2, hgq, f0, f1, f2, f3⟩ := HPn.out.at (j - 1) (by omega)
          subst e1
          cases e2
          have hj1' : j - 1 < T[k].props.length := by omega
          have hsub : IntKind.i64.wrap ((j : Int) - 1) = (j : Int) - 1 := IntWalk.i64_in _ (by omega)
          have hsub0 : (0 : Int) ≤ (j : Int) - 1 := by omega
          have hsub1 : ((j : Int) - 1).toNat = j - 1 := by omega
          have hsub2 : (j : Int) - 1 < (T[k].props.length : Int) := by omega
          have hjI : (j : Int) < (T[k].props.length : Int) := by omega
          have hasc := Lib.hid (asc_two T[k].props j hj1 hjl)
          cases hlt2 : Op.bytesLess (T[k].props[j - 1]).name.toList (T[k].props[j]).name.toList with
          | true =>
            have hL := Lib.hid (show ltS (T[k].props[j - 1]).name (T[k].props[j]).name = true from hlt2)
            go_wp2_with fail
            go_quiet (fail)
            go_wp2_with fail
            clear hsub hsub0 hsub1 hsub2 hjI
            go_roundg (gk - 1)
            case measure => omega
            case rel => exact ⟨j + 1, _, by go_num, by omega, by omega, by omega, by show _ = _; rw [hA.out, hasc.out, hL.out, Bool.true_and]; rfl, rfl⟩
          | false =>
            have hL := Lib.hid (show ltS (T[k].props[j - 1]).name (T[k].props[j]).name = false from hlt2)
            go_wp2_with fail
            go_quiet (fail)
            go_wp2_with fail
            clear hsub hsub0 hsub1 hsub2 hjI
            go_ret
            exact ⟨ret_bool (by rw [hW.out, hstep.out, walkedF_cons, hA.out, hasc.out, hL.out]; rfl), below_draws (below_draws (hb.alloc hbs _) _) _⟩
        · have hAs := Lib.hid (show ascT T[k].props = true from by rw [hA.out]; exact asc_nil (by simp; omega))
          clear hA
          have hb3 : Below w.heap.size w ((wr.alloc (.cells #[.int .i64 T[k].parent, .string T[k].name, .slice pa T[k].props.length pc] 42)).drewN m) := below_draws (hb.alloc hbs _) m
          have hB3 := (hB.alloc (.cells #[.int .i64 T[k].parent, .string T[k].name, .slice pa T[k].props.length pc] 42)).drewN m
          have hS3 := (hS.alloc (.cells #[.int .i64 T[k].parent, .string T[k].name, .slice pa T[k].props.length pc] 42)).drewN m
          by_cases hk0 : k = 0
          · subst hk0
            have hW1 := Lib.hid (show walkedT T = walkedF T 1 last (T.drop 1) from by rw [hW.out, hstep.out, walkedF_cons, hAs.out, if_pos rfl]; rfl)
            go_wp2_with fail
            go_roundg (go - 1)
            case measure => omega
            case rel => exact ⟨1, last, by go_num, by omega, by omega, hll, hW1.out, hb3, hB3, hS3⟩
          · have hk0b : ((k : Int) == 0) = false := by simp; omega
            obtain ⟨hq0, hq1⟩ := HPAR.out.2 (by omega)
            have hk1 : IntKind.i64.wrap ((k : Int) - 1) = (k : Int) - 1 := IntWalk.i64_in _ (by omega)
            have hW1 := Lib.hid (show walkedT T = (decide (0 ≤ upT3 T T[k].parent (k + 1) ((k : Int) - 1)) && !ltS T[k].name (last.getD (upT3 T T[k].parent (k + 1) ((k : Int) - 1)).toNat ByteArray.empty) && walkedF T (k + 1) (last.set (upT3 T T[k].parent (k + 1) ((k : Int) - 1)).toNat T[k].name) (T.drop (k + 1))) from by rw [hW.out, hstep.out, walkedF_cons, hAs.out, if_neg hk0, Bool.true_and])
            go_wp2_with fail
            clear hk1
            go_loopg [7] k (fun f x wx => ∃ (u : Int) (n m2 : Nat), x = .int .i64 u ∧ u + 1 ≤ f ∧ -1 ≤ u ∧ u < k ∧ u < n ∧ Hid (upT3 T T[k].parent (k + 1) ((k : Int) - 1) = upT3 T T[k].parent n u) ∧
              wx = (wr.alloc (.cells #[.int .i64 T[k].parent, .string T[k].name, .slice pa T[k].props.length pc] 42)).drewN m2)
            case atStart => exact ⟨(k : Int) - 1, k + 1, m, by go_num, by omega, by omega, by omega, by omega, rfl, rfl⟩
            case round =>
              obtain ⟨u, n, m2, rfl, hf3, hu0, hu1, hun, hU, rfl⟩ := hrel
              have hb4 : Below w.heap.size w ((wr.alloc (.cells #[.int .i64 T[k].parent, .string T[k].name, .slice pa T[k].props.length pc] 42)).drewN m2) := below_draws (hb.alloc hbs _) m2
              by_cases hneg : u < 0
              · have hUe := Lib.hid (show upT3 T T[k].parent n u = u from by cases n with
                  | zero => rfl
                  | succ n => simp [upT3, hneg])
                have hub : decide (u < 0) = true := by simpa using hneg
                have hub2 : decide (0 ≤ u) = false := by simpa using hneg
                go_wp2_with fail
                go_quiet (fail)
                go_wp2_with fail
                go_ret
                exact ⟨ret_bool (by rw [hW1.out, hU.out, hUe.out, hub2]; rfl), below_draws hb4 _⟩
              · have hu2 : 0 ≤ u := by omega
                by_cases heq : u = T[k].parent
                · have hUe := Lib.hid (show upT3 T T[k].parent n u = u from by cases n with
                    | zero => rfl
                    | succ n => simp [upT3, heq])
                  obtain ⟨y, rfl⟩ := Int.eq_ofNat_of_zero_le hu2
                  have hyl : y < last.length := by omega
                  have hne : ((y : Int) != T[k].parent) = false := by simp [heq]
                  have hub : decide ((y : Int) < 0) = false := by simp
                  have hyI : (y : Int) < (T.length : Int) := by omega
                  have hlc : wr.cell? ⟨w.heap.size + 1, y, none⟩ = some (.string last[y]) := (hS.cell y).trans (strCells_at last y hyl)
                  have hlf : wr.frozen? ⟨w.heap.size + 1, y, none⟩ = false := hS.free y
                  have HEQ := Lib.hid heq; clear heq
                  have hgd := Lib.hid (show last.getD y ByteArray.empty = last[y] from by simp [List.getD, hyl])
                  cases hlt3 : Op.bytesLess T[k].name.toList last[y].toList with
                  | true =>
                    have hL := Lib.hid (show ltS T[k].name last[y] = true from hlt3)
                    go_wp2_with fail
                    go_quiet (fail)
                    go_wp2_with fail
                    go_ret
                    exact ⟨ret_bool (by rw [hW1.out, hU.out, hUe.out, Int.toNat_natCast, hgd.out, hL.out]; simp), below_draws hb4 _⟩
                  | false =>
                    have hL := Lib.hid (show ltS T[k].name last[y] = false from hlt3)
                    go_wp2_with fail
                    go_quiet (fail)
                    go_wp2_with fail
                    go_roundg (go - 1)
                    case measure => omega
                    case rel =>
                      refine ⟨k + 1, last.set y T[k].name, by go_num, by omega, by omega, by simpa using hll, ?_, ?_, ?_, ?_⟩
                      · show _ = _
                        rw [hW1.out, hU.out, hUe.out, Int.toNat_natCast, hgd.out, hL.out]; simp
                      · refine (below_draws (hb.alloc hbs _) _).setCell ?_ _
                        show w.heap.size ≤ w.heap.size + 1
                        omega
                      · refine ((hB.alloc _).drewN _).other _ _ ?_
                        show w.heap.size ≠ w.heap.size + 1
                        omega
                      · rw [← strCells_set]
                        exact ((hS.alloc _).drewN _).set y (.string T[k].name)
                · have hne : (u != T[k].parent) = true := by simpa using heq
                  obtain ⟨y, rfl⟩ := Int.eq_ofNat_of_zero_le hu2
                  have hyl : y < T.length := by omega
                  obtain ⟨g2, o2, pa2, pc2, e3, _, f0, _⟩ := (HT.out.new hb).at y hyl
                  cases e3
                  have hpy := named_par HNM.out y hyl
                  have hstp : Hid (upT3 T T[k].parent n (y : Int) = upT3 T T[k].parent (n - 1) T[y].parent) := by
                    obtain ⟨n', rfl⟩ : ∃ n', n = n' + 1 := ⟨n - 1, by omega⟩
                    show _ = _
                    simp only [upT3]
                    rw [if_neg (by rintro (e | e); omega; exact heq e), Int.toNat_natCast, parOf_at hyl]; rfl
                  have hq : -1 ≤ T[y].parent ∧ T[y].parent < y := by
                    by_cases h0 : y = 0
                    · have := hpy.1 h0; omega
                    · have := hpy.2 (by omega); omega
                  obtain ⟨hq2, hq3⟩ := hq
                  clear hpy heq
                  go_wp2_with fail
                  go_roundg (gk - 1)
                  case measure => omega
                  case rel => exact ⟨T[y].parent, n - 1, m2, rfl, by omega, hq2, by omega, by omega, by show _ = _; rw [hU.out, hstp.out], rfl⟩
    · go_wp2_with fail
      go_ret
      exact ⟨ret_bool (by rw [hW.out, List.drop_eq_nil_of_le (by omega)]; rfl), hb⟩
end Go.Proofs.Ytjfkjnakmmkkiaa
