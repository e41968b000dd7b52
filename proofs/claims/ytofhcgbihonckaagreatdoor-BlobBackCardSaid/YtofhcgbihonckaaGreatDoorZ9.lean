/- Contracts of address: fits, regions. | The contract of regions of address. | Contracts of bringupgrow: Cells. | Contracts of bringuplaw11: number. -/
import Derived.Test.YtofhcgbihonckaaGreatDoorZ8
import Derived.StillTailTactics
import Derived.Laws.IdiomStrings
import Derived.Test.YtofhcgbihonckaaGreatDoorZ7

set_option linter.unusedVariables false
set_option linter.unusedSimpArgs false
set_option linter.unusedSectionVars false

namespace Go.Proofs.YtofhcgbihonckaaGreatDoor
open Go.RowKit

def fitsB (b s : Int) : Bool := decide (s ≤ 4611686018427387903 - b)

def nmReg : ByteArray := ⟨#[114, 101, 103]⟩
def regF : List (List Int) → Option (List (Int × Int))
  | [] => some []
  | r :: rs => if fitsB (r.getD 0 0) (r.getD 1 0) = true then (regF rs).map ((r.getD 0 0, r.getD 1 0) :: ·) else none
def regE (o : Option (List (Int × Int))) : List (Int × Int) × Int := match o with
  | none => ([], 2)
  | some l => (l, 0)
def regionsT (T : List NodeT) (k : Nat) : List (Int × Int) × Int :=
  if k = 0 then ([], 0) else
    let c := pairT T (parOf T k)
    if c.2.2 ≠ 0 then ([], c.2.2) else
      let r := rowsT (valueT T k nmReg).1 [c.1, c.2.1]
      if r.2 ≠ 0 then ([], r.2) else regE (regF r.1)
theorem countV_bd (v : ByteArray × Bool) (h : (countV v).2 = true) : (countV v).1 = 1 ∨ (countV v).1 = 2 := by
  unfold countV at h ⊢
  split
  · exact .inl rfl
  · rename_i h1
    rw [if_neg h1] at h
    split
    · rename_i h2; rw [if_pos h2] at h; cases h
    · rename_i h2
      simp only [not_or] at h2
      obtain ⟨_, _, h3, h4⟩ := h2
      simp only
      omega
theorem pairT_bd (T : List NodeT) (node : Int) (h : (pairT T node).2.2 = 0) : ((pairT T node).1 = 1 ∨ (pairT T node).1 = 2) ∧ ((pairT T node).2.1 = 1 ∨ (pairT T node).2.1 = 2) := by
  unfold pairT at h ⊢
  by_cases c : (countT T node nmAC).2 = false ∨ (countT T node nmSC).2 = false
  · rw [if_pos c] at h; simp at h
  · rw [if_neg c]
    simp only [not_or, Bool.not_eq_false] at c
    exact ⟨countV_bd _ c.1, countV_bd _ c.2⟩
theorem rowF_spec : ∀ (ws l : List Int) (q : List Int × List Int), (∀ x ∈ l, 0 ≤ x ∧ x ≤ 4294967295) → rowF ws l = some q → q.1.length = ws.length ∧ (∀ x ∈ q.1, 0 ≤ x ∧ x ≤ 4611686018427387903) ∧ ∀ x ∈ q.2, 0 ≤ x ∧ x ≤ 4294967295 := by
  intro ws
  induction ws with
  | nil => intro l q hl h; simp [rowF] at h; subst h; exact ⟨rfl, by simp, hl⟩
  | cons w ws ih =>
    intro l q hl h
    have hd : 0 ≤ l.headD 0 ∧ l.headD 0 ≤ 4294967295 := by
      cases l with
      | nil => simp
      | cons a b => exact hl a (by simp)
    have hg : 0 ≤ l.getD 1 0 ∧ l.getD 1 0 ≤ 4294967295 := by
      match l with
      | [] => simp
      | [_] => simp
      | a :: b :: r => exact hl b (by simp)
    simp only [rowF] at h
    by_cases hw : w = 2
    · rw [if_pos hw] at h
      by_cases hb : 1073741823 < l.headD 0
      · rw [if_pos hb] at h; cases h
      · rw [if_neg hb, Option.map_eq_some_iff] at h
        obtain ⟨p, hp, rfl⟩ := h
        obtain ⟨h1, h2, h3⟩ := ih _ _ (fun x hx => hl x (List.mem_of_mem_drop hx)) hp
        refine ⟨by simp [h1], ?_, h3⟩
        intro x hx
        rcases List.mem_cons.1 hx with rfl | hx
        · omega
        · exact h2 x hx
    · rw [if_neg hw, Option.map_eq_some_iff] at h
      obtain ⟨p, hp, rfl⟩ := h
      obtain ⟨h1, h2, h3⟩ := ih _ _ (fun x hx => hl x (List.mem_of_mem_drop hx)) hp
      refine ⟨by simp [h1], ?_, h3⟩
      intro x hx
      rcases List.mem_cons.1 hx with rfl | hx
      · omega
      · exact h2 x hx
theorem rowsF_spec (ws : List Int) : ∀ (f : Nat) (l : List Int) (rs : List (List Int)), (∀ x ∈ l, 0 ≤ x ∧ x ≤ 4294967295) → rowsF ws f l = some rs → rs.length ≤ f ∧ ∀ r ∈ rs, r.length = ws.length ∧ ∀ x ∈ r, 0 ≤ x ∧ x ≤ 4611686018427387903 := by
  intro f
  induction f with
  | zero => intro l rs _ h; simp [rowsF] at h; subst h; simp
  | succ f ih =>
    intro l rs hl h
    simp only [rowsF] at h
    by_cases hz : l = []
    · rw [if_pos hz] at h; simp at h; subst h; simp
    · rw [if_neg hz, Option.bind_eq_some_iff] at h
      obtain ⟨q, hq, h⟩ := h
      rw [Option.map_eq_some_iff] at h
      obtain ⟨rs', hrs, rfl⟩ := h
      obtain ⟨h1, h2, h3⟩ := rowF_spec ws l q hl hq
      obtain ⟨h4, h5⟩ := ih q.2 rs' h3 hrs
      refine ⟨by simp; omega, ?_⟩
      intro r hr
      rcases List.mem_cons.1 hr with rfl | hr
      · exact ⟨h1, h2⟩
      · exact h5 r hr
theorem rowsT_spec (v : ByteArray) (ws : List Int) : (rowsT v ws).1.length ≤ v.size ∧ ∀ r ∈ (rowsT v ws).1, r.length = ws.length ∧ ∀ x ∈ r, 0 ≤ x ∧ x ≤ 4611686018427387903 := by
  unfold rowsT
  split
  · simp
  · cases h : rowsF ws (cellsT v).length (cellsT v) with
    | none => simp [rowsE]
    | some rs =>
      obtain ⟨h1, h2⟩ := rowsF_spec ws _ _ rs (cellsT_bd v) h
      have := cellsT_len v
      exact ⟨by simp only [rowsE]; omega, h2⟩
end Go.Proofs.YtofhcgbihonckaaGreatDoor

namespace Go.Proofs.YtofhcgbihonckaaGreatDoor
open Go.RowKit

theorem cell_new {w w' : World} {B : Nat} {g o : Nat} {x : Value} (h : w.cell? ⟨g, o, none⟩ = some x) (hg : g < B) (k : Below B w w') : w'.cell? ⟨g, o, none⟩ = some x := (k.cell (p := ⟨g, o, none⟩) hg).trans h

theorem rows_at {w : World} {B : Nat} {v : Value} {rs : List (List Int)} (h : RowsAt w B v rs) (j : Nat) (hj : j < rs.length) (h2 : 0 < rs[j].length) :
    ∃ g cap gj cj, v = .slice (some ⟨g, 0, none⟩) rs.length cap ∧ rs.length ≤ cap ∧ g < w.heap.size ∧ gj < w.heap.size ∧ w.cell? ⟨g, j, none⟩ = some (.slice (some ⟨gj, 0, none⟩) rs[j].length cj) ∧ rs[j].length ≤ cj ∧
      ∀ (i : Nat) (hi : i < rs[j].length), w.cell? ⟨gj, i, none⟩ = some (.int .i64 rs[j][i]) := by
  obtain ⟨rvs, h3, h4, h5⟩ := h
  obtain ⟨gj, cj, e1, q1, _, q2, q3⟩ := ints_at (h5 j hj (by omega)) h2
  rcases h3.2 with ⟨_, h0⟩ | ⟨g, cap, cur, rfl, hb, hh, hcap, hr⟩
  · omega
  · refine ⟨g, cap, gj, cj, rfl, hcap, lt_of_block hh, q2, ?_, q1, q3⟩
    have hc := h3.cells (g := g) rfl j rvs[j] (by simp [h4, hj])
    have hadd : (⟨g, 0, none⟩ : Addr).add j = ⟨g, j, none⟩ := by unfold Addr.add; split <;> simp_all
    rw [hadd] at hc
    rw [hc, e1]
theorem pair_row {r : List Int} (h : r.length = 2) : r = [r.getD 0 0, r.getD 1 0] := by
  match r, h with
  | [a, b], _ => rfl

end Go.Proofs.YtofhcgbihonckaaGreatDoor

namespace Go.Proofs.YtofhcgbihonckaaGreatDoor
open Go.RowKit

theorem infoByte : (Tryz.prog.info? 5).map (fun i => (i.zero, i.size, i.bytes)) = some (some (.int .u8 0), 1, 1) := by kernel_rfl
/-- A row of bytes of the call's own, as a string. -/
theorem bytes_conv {w : World} {base : Nat} {v : Value} {acc : List UInt8} (h : w.ownsRow base 5 1 v acc.length (Lib.byteCells acc)) :
    (convert 26 9 v).run Tryz.prog w = .ok (.string ⟨acc.toArray⟩) w := by
  rcases h.2 with ⟨rfl, h0⟩ | ⟨g, cap, cur, rfl, hb, hh, hcap, hr⟩
  · have : acc = [] := List.eq_nil_of_length_eq_zero h0
    subst this
    exact run_convert_bytes_nil w _ _ Tryz.underlying26 Tryz.underlying5 0 0 _ Tryz.underlying9
  · refine run_convert_bytes_back w _ _ _ ⟨g, 0, none⟩ cap acc Tryz.underlying26 Tryz.underlying5 Tryz.underlying9 ?_
    intro j hj
    exact h.cells (g := g) rfl j _ (by simp [Lib.byteCells, hj])
theorem bytes_shape {w : World} {base : Nat} {e : TypeId} {v : Value} {n : Nat} {xs : List Value} (h : w.ownsRow base e 1 v n xs) : ∃ a cap, v = .slice a n cap := by
  rcases h.2 with ⟨rfl, rfl⟩ | ⟨g, cap, cur, rfl, _⟩
  · exact ⟨none, 0, rfl⟩
  · exact ⟨_, cap, rfl⟩
/-- The four bytes of a cell, the most significant one first. -/
def bytes4 (n : Int) : List UInt8 := [UInt8.ofNat (n / 16777216).toNat, UInt8.ofNat (n / 65536 % 256).toNat, UInt8.ofNat (n / 256 % 256).toNat, UInt8.ofNat (n % 256).toNat]
theorem u8_toNat {n : Int} (h0 : 0 ≤ n) (h1 : n ≤ 255) : ((UInt8.ofNat n.toNat).toNat : Int) = n := by
  rw [UInt8.toNat_ofNat', Nat.mod_eq_of_lt (by omega)]; omega
theorem bytes4_cells (n : Int) (h0 : 0 ≤ n) (h1 : n ≤ 4294967295) : Lib.byteCells (bytes4 n) = [.int .u8 (n / 16777216), .int .u8 (n / 65536 % 256), .int .u8 (n / 256 % 256), .int .u8 (n % 256)] := by
  have a := u8_toNat (n := n / 16777216) (by omega) (by omega)
  have b := u8_toNat (n := n / 65536 % 256) (by omega) (by omega)
  have c := u8_toNat (n := n / 256 % 256) (by omega) (by omega)
  have d := u8_toNat (n := n % 256) (by omega) (by omega)
  unfold bytes4 Lib.byteCells
  simp only [List.map_cons, List.map_nil, a, b, c, d]
def growT (l : List Int) : List UInt8 := l.flatMap bytes4

set_option maxRecDepth 100000 in
set_option maxHeartbeats 2000000 in
theorem grow_Cells (l : List Int) (v : Value) (w : World) (hl : ListAt w.heap.size w v l) (hr : ∀ x ∈ l, 0 ≤ x ∧ x ≤ 4294967295) (hlen : l.length ≤ 1000) :
    Calls Tryz.prog 54 #[v] w fun e w' => e = .returned (.string ⟨(growT l).toArray⟩) ∧ Below w.heap.size w w' := by
  obtain ⟨a, cap, rfl, hc1, hc2, hat⟩ := hl
  have HA := Lib.hid hat; clear hat
  have HR := Lib.hid hr; clear hr
  go_enter Tryz.func54, Tryz.ntmps54
  go_wp2_with fail
  go_loopg [3, 8] (l.length) (fun f x y wr => ∃ (k : Nat) (acc : List UInt8), y = .int .i64 k ∧ k ≤ l.length ∧ l.length ≤ k + f ∧ Hid (growT l = acc ++ growT (l.drop k)) ∧ Hid (acc.length = 4 * k) ∧
    wr.ownsRow w.heap.size 5 1 x acc.length (Lib.byteCells acc) ∧ Below w.heap.size w wr)
  case atStart => exact ⟨0, [], rfl, by omega, by omega, rfl, rfl, World.ownsRow_nil _ _ _ _, Below.refl _ _⟩
  case round =>
    obtain ⟨k, acc, rfl, hk1, hk2, hA, hAL, hown, hb⟩ := hrel
    have hbs := hb.size
    by_cases hlt : k < l.length
    · obtain ⟨g, o, rfl, hg, hcell⟩ := HA.out (by omega)
      have hx := HR.out l[k] (List.getElem_mem hlt)
      have c0 := cell_new (hcell k hlt) hg hb
      have hstep := Lib.hid (show growT (l.drop k) = bytes4 l[k] ++ growT (l.drop (k + 1)) from by
        rw [List.drop_eq_getElem_cons hlt]; rfl)
      have g0 : (k : Int) < (l.length : Int) := by omega
      clear hcell
      generalize l[k] = n at hx c0 hstep
      obtain ⟨hx0, hx1⟩ := hx
      obtain ⟨ao, co, rfl⟩ := bytes_shape hown
      have i0' : (0 : Int) ≤ k := by omega
      obtain ⟨i0, hi, hz0, hz1, hz2⟩ := info_parts infoByte
      have hAL2 := hAL.out
      have HK := Lib.hid hAL2
      have hal : acc.length ≤ 4000 := by omega
      clear hAL2
      go_wp2_with (at_builtin; refine wpList_append_own _ rfl _ _ 26 rfl w.heap.size 5 i0 (.int .u8 0) 1 1 Tryz.underlying26 hi hz0 hz1 hz2 rfl (by decide) _ _ _ rfl (by exact World.ownsRow.alloc hown _) ⟨wr.heap.size, 0, none⟩ 4 4 [.int .u8 (n / 16777216), .int .u8 (n / 65536 % 256), .int .u8 (n / 256 % 256), .int .u8 (n % 256)] rfl rfl ?c1 ?c2 ?c3 ?c4 ?c5 ?_)
      case c1 => exact new_cells _ _ _ _ rfl _ rfl
      case c2 => intro u hu; simp at hu; rcases hu with rfl | rfl | rfl | rfl <;> rfl
      case c3 => unfold maxLen; omega
      case c4 => omega
      case c5 => simp; omega
      intro v' w3 hown' hgrow _
      have hb3 : Below w.heap.size w w3 := (hb.alloc hbs _).grown hgrow (by simp; omega) (fun g hg => by have := (hown.lt g hg).1; omega)
      have hown2 : w3.ownsRow w.heap.size 5 1 v' (acc ++ bytes4 n).length (Lib.byteCells (acc ++ bytes4 n)) := by
        have e := bytes4_cells n hx0 hx1
        have e2 : Lib.byteCells (acc ++ bytes4 n) = Lib.byteCells acc ++ Lib.byteCells (bytes4 n) := by simp [Lib.byteCells]
        rw [e2, e, List.length_append, show (bytes4 n).length = 4 from rfl]
        exact hown'
      clear hgrow hown'
      obtain ⟨ao', cap', rfl⟩ := bytes_shape hown2
      go_wp2_with fail
      go_roundg (gk - 1)
      case measure => omega
      case rel =>
        refine ⟨k + 1, acc ++ bytes4 n, by go_num, by omega, by omega, ?_, ?_, hown2, hb3⟩
        · show _ = _
          rw [hA.out, hstep.out]; simp
        · show _ = _
          rw [List.length_append, HK.out, show (bytes4 n).length = 4 from rfl]; omega
    · have hfin := Lib.hid (show growT l = acc from by rw [hA.out, List.drop_eq_nil_of_le (by omega)]; simp [growT])
      have hcv := bytes_conv hown
      obtain ⟨ao, co, rfl⟩ := bytes_shape hown
      go_wp2_with fail
      go_ret
      exact ⟨by rw [hfin.out]; rfl, hb⟩
end Go.Proofs.YtofhcgbihonckaaGreatDoor

namespace Go.Proofs.YtofhcgbihonckaaGreatDoor
open Go.RowKit

theorem and_cell (n : Int) (h0 : 0 ≤ n) (h1 : n ≤ 4611686018427387903) : bits .and .i64 n 4294967295 = n % 4294967296 := by
  obtain ⟨k, rfl⟩ := Int.eq_ofNat_of_zero_le h0
  have e1 : (BitVec.ofInt 64 (k : Int)).toNat = k := by
    rw [BitVec.toNat_ofInt]; norm_cast; omega
  have e2 : (BitVec.ofInt 64 (4294967295 : Int)).toNat = 2 ^ 32 - 1 := by rfl
  show IntKind.i64.wrap ((((BitVec.ofInt 64 (k : Int)) &&& (BitVec.ofInt 64 (4294967295 : Int))).toNat : Nat) : Int) = _
  rw [BitVec.toNat_and, e1, e2, Nat.and_two_pow_sub_one_eq_mod]
  rw [IntWalk.i64_in _ (by omega)]
  omega
theorem list_one (w : World) (x : Int) (t : TypeId) : ListAt (w.alloc (.cells #[.int .i64 x] t)).heap.size (w.alloc (.cells #[.int .i64 x] t)) (.slice (some ⟨w.heap.size, 0, none⟩) 1 1) [x] := by
  refine ⟨some ⟨w.heap.size, 0, none⟩, 1, rfl, Nat.le_refl _, by omega, fun _ => ⟨w.heap.size, 0, rfl, by simp, fun i hi => ?_⟩⟩
  have h := Holds.new w #[.int .i64 x] t
  match i, hi with
  | 0, _ => exact h.cell 0
theorem list_two (w : World) (x y : Int) (t : TypeId) : ListAt (w.alloc (.cells #[.int .i64 x, .int .i64 y] t)).heap.size (w.alloc (.cells #[.int .i64 x, .int .i64 y] t)) (.slice (some ⟨w.heap.size, 0, none⟩) 2 2) [x, y] := by
  refine ⟨some ⟨w.heap.size, 0, none⟩, 2, rfl, Nat.le_refl _, by omega, fun _ => ⟨w.heap.size, 0, rfl, by simp, fun i hi => ?_⟩⟩
  have h := Holds.new w #[.int .i64 x, .int .i64 y] t
  match i, hi with
  | 0, _ => exact h.cell 0
  | 1, _ => exact h.cell 1

end Go.Proofs.YtofhcgbihonckaaGreatDoor
