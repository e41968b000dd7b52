/- bringupref02: rank (printed by grfec.py). | Plain: reading by ranks is reading by levels. | bringupref02: what its methods leave. | bringupref02: operand. | bringupref02: row. | bringupref02: the walk of row. | bringupref02: whole. | bringupref02: done, Value, Primary. | bringupref02: Value. -/
import Derived.Test.YtiojnbhomjkkgaaGreatDoorZ2
import Derived.Test.YtiojnbhomjkkgaaGreatDoorZ18
import Derived.Test.YtiojnbhomjkkgaaGreatDoorZ19
import Derived.Deep.LoopGhost
import Derived.StillTailTactics
import Derived.Deep.DeepCutAuto
import Derived.Deep.CutBlock
import Derived.Test.YtiojnbhomjkkgaaGreatDoorZ21

set_option linter.unusedVariables false
set_option linter.unusedSimpArgs false
set_option linter.unusedSectionVars false

namespace Go.Proofs.YtiojnbhomjkkgaaGreatDoor
open Go.RowKit

def rkRows : List (List ByteArray) := [[⟨#[124, 124]⟩], [⟨#[38, 38]⟩], [⟨#[124]⟩], [⟨#[94]⟩], [⟨#[38]⟩], [⟨#[61, 61]⟩, ⟨#[33, 61]⟩], [⟨#[60]⟩, ⟨#[62]⟩, ⟨#[60, 61]⟩, ⟨#[62, 61]⟩], [⟨#[60, 60]⟩, ⟨#[62, 62]⟩], [⟨#[43]⟩, ⟨#[45]⟩], [⟨#[42]⟩, ⟨#[47]⟩, ⟨#[37]⟩]]
theorem rk_names : ∀ i, i < 10 → rkRows.getD i [] = (rowsX.getD (9 - i) []).map (·.1) := by decide
theorem rowN_none {q : Nat} {s : ByteArray} (h : s ∉ (rowsX.getD q []).map (·.1)) : rowN q s = none := by
  unfold rowN
  rw [Option.map_eq_none_iff, List.find?_eq_none]
  intro p hp e
  simp only [decide_eq_true_eq] at e
  exact h (List.mem_map.2 ⟨p, hp, e⟩)
theorem rowN_some {q : Nat} {s : ByteArray} (h : s ∈ (rowsX.getD q []).map (·.1)) : ∃ f, rowN q s = some f := by
  obtain ⟨p, hp, e⟩ := List.mem_map.1 h
  unfold rowN
  cases hf : (rowsX.getD q []).find? (fun p => decide (p.1 = s)) with
  | none =>
    rw [List.find?_eq_none] at hf
    exact absurd (by simpa using e) (hf p hp)
  | some x => exact ⟨x.2, rfl⟩
/-- What rank answers. -/
def RankPost (s : ByteArray) (w : World) (e : Ending) (w' : World) : Prop :=
  ∃ R : Int, e = .returned (.int .i64 R) ∧ ((R = 0 ∧ ∀ q, q < 10 → rowN q s = none) ∨ ∃ q f : Nat, q < 10 ∧ R = 10 - (q : Int) ∧ rowN q s = some f) ∧ Below w.heap.size w w'
structure RkAt (B : Nat) (w : World) : Prop where
  top : Holds w (B + 10) ((List.range 10).map fun i => Value.slice (some ⟨B + i, 0, none⟩) (rkRows.getD i []).length (rkRows.getD i []).length).toArray 33
  row : ∀ i, i < 10 → Holds w (B + i) ((rkRows.getD i []).map Value.string).toArray 9
theorem rk_made (w : World) : RkAt w.heap.size (((((((((((w.alloc (.cells #[.string ⟨#[124, 124]⟩] 9)).alloc (.cells #[.string ⟨#[38, 38]⟩] 9)).alloc (.cells #[.string ⟨#[124]⟩] 9)).alloc (.cells #[.string ⟨#[94]⟩] 9)).alloc (.cells #[.string ⟨#[38]⟩] 9)).alloc (.cells #[.string ⟨#[61, 61]⟩, .string ⟨#[33, 61]⟩] 9)).alloc (.cells #[.string ⟨#[60]⟩, .string ⟨#[62]⟩, .string ⟨#[60, 61]⟩, .string ⟨#[62, 61]⟩] 9)).alloc (.cells #[.string ⟨#[60, 60]⟩, .string ⟨#[62, 62]⟩] 9)).alloc (.cells #[.string ⟨#[43]⟩, .string ⟨#[45]⟩] 9)).alloc (.cells #[.string ⟨#[42]⟩, .string ⟨#[47]⟩, .string ⟨#[37]⟩] 9)).alloc (.cells #[.slice (some ⟨w.heap.size, 0, none⟩) 1 1, .slice (some ⟨w.heap.size + 1, 0, none⟩) 1 1, .slice (some ⟨w.heap.size + 2, 0, none⟩) 1 1, .slice (some ⟨w.heap.size + 3, 0, none⟩) 1 1, .slice (some ⟨w.heap.size + 4, 0, none⟩) 1 1, .slice (some ⟨w.heap.size + 5, 0, none⟩) 2 2, .slice (some ⟨w.heap.size + 6, 0, none⟩) 4 4, .slice (some ⟨w.heap.size + 7, 0, none⟩) 2 2, .slice (some ⟨w.heap.size + 8, 0, none⟩) 2 2, .slice (some ⟨w.heap.size + 9, 0, none⟩) 3 3] 33)) ∧ Below w.heap.size w (((((((((((w.alloc (.cells #[.string ⟨#[124, 124]⟩] 9)).alloc (.cells #[.string ⟨#[38, 38]⟩] 9)).alloc (.cells #[.string ⟨#[124]⟩] 9)).alloc (.cells #[.string ⟨#[94]⟩] 9)).alloc (.cells #[.string ⟨#[38]⟩] 9)).alloc (.cells #[.string ⟨#[61, 61]⟩, .string ⟨#[33, 61]⟩] 9)).alloc (.cells #[.string ⟨#[60]⟩, .string ⟨#[62]⟩, .string ⟨#[60, 61]⟩, .string ⟨#[62, 61]⟩] 9)).alloc (.cells #[.string ⟨#[60, 60]⟩, .string ⟨#[62, 62]⟩] 9)).alloc (.cells #[.string ⟨#[43]⟩, .string ⟨#[45]⟩] 9)).alloc (.cells #[.string ⟨#[42]⟩, .string ⟨#[47]⟩, .string ⟨#[37]⟩] 9)).alloc (.cells #[.slice (some ⟨w.heap.size, 0, none⟩) 1 1, .slice (some ⟨w.heap.size + 1, 0, none⟩) 1 1, .slice (some ⟨w.heap.size + 2, 0, none⟩) 1 1, .slice (some ⟨w.heap.size + 3, 0, none⟩) 1 1, .slice (some ⟨w.heap.size + 4, 0, none⟩) 1 1, .slice (some ⟨w.heap.size + 5, 0, none⟩) 2 2, .slice (some ⟨w.heap.size + 6, 0, none⟩) 4 4, .slice (some ⟨w.heap.size + 7, 0, none⟩) 2 2, .slice (some ⟨w.heap.size + 8, 0, none⟩) 2 2, .slice (some ⟨w.heap.size + 9, 0, none⟩) 3 3] 33)) := by
  refine ⟨⟨?_, ?_⟩, ?_⟩
  · exact Holds.newAt (by simp) _ _
  · intro i hi
    have hc : i = 0 ∨ i = 1 ∨ i = 2 ∨ i = 3 ∨ i = 4 ∨ i = 5 ∨ i = 6 ∨ i = 7 ∨ i = 8 ∨ i = 9 := by omega
    rcases hc with rfl | rfl | rfl | rfl | rfl | rfl | rfl | rfl | rfl | rfl
    · exact ((((((((((Holds.newAt (B := w.heap.size + 0) (by simp) #[.string ⟨#[124, 124]⟩] 9).alloc _).alloc _).alloc _).alloc _).alloc _).alloc _).alloc _).alloc _).alloc _).alloc _
    · exact (((((((((Holds.newAt (B := w.heap.size + 1) (by simp) #[.string ⟨#[38, 38]⟩] 9).alloc _).alloc _).alloc _).alloc _).alloc _).alloc _).alloc _).alloc _).alloc _
    · exact ((((((((Holds.newAt (B := w.heap.size + 2) (by simp) #[.string ⟨#[124]⟩] 9).alloc _).alloc _).alloc _).alloc _).alloc _).alloc _).alloc _).alloc _
    · exact (((((((Holds.newAt (B := w.heap.size + 3) (by simp) #[.string ⟨#[94]⟩] 9).alloc _).alloc _).alloc _).alloc _).alloc _).alloc _).alloc _
    · exact ((((((Holds.newAt (B := w.heap.size + 4) (by simp) #[.string ⟨#[38]⟩] 9).alloc _).alloc _).alloc _).alloc _).alloc _).alloc _
    · exact (((((Holds.newAt (B := w.heap.size + 5) (by simp) #[.string ⟨#[61, 61]⟩, .string ⟨#[33, 61]⟩] 9).alloc _).alloc _).alloc _).alloc _).alloc _
    · exact ((((Holds.newAt (B := w.heap.size + 6) (by simp) #[.string ⟨#[60]⟩, .string ⟨#[62]⟩, .string ⟨#[60, 61]⟩, .string ⟨#[62, 61]⟩] 9).alloc _).alloc _).alloc _).alloc _
    · exact (((Holds.newAt (B := w.heap.size + 7) (by simp) #[.string ⟨#[60, 60]⟩, .string ⟨#[62, 62]⟩] 9).alloc _).alloc _).alloc _
    · exact ((Holds.newAt (B := w.heap.size + 8) (by simp) #[.string ⟨#[43]⟩, .string ⟨#[45]⟩] 9).alloc _).alloc _
    · exact (Holds.newAt (B := w.heap.size + 9) (by simp) #[.string ⟨#[42]⟩, .string ⟨#[47]⟩, .string ⟨#[37]⟩] 9).alloc _
  · exact (((((((((((Below.refl w.heap.size w).alloc (by simp <;> omega) _).alloc (by simp <;> omega) _).alloc (by simp <;> omega) _).alloc (by simp <;> omega) _).alloc (by simp <;> omega) _).alloc (by simp <;> omega) _).alloc (by simp <;> omega) _).alloc (by simp <;> omega) _).alloc (by simp <;> omega) _).alloc (by simp <;> omega) _).alloc (by simp <;> omega) _
set_option maxRecDepth 100000 in
set_option maxHeartbeats 4000000 in
theorem r2_rank (s : ByteArray) (w : World) : Calls Tryz.prog 171 #[.string s] w (RankPost s w) := by
  obtain ⟨hR, hB⟩ := rk_made w
  have HR := Lib.hid hR
  have HB := Lib.hid hB
  clear hR hB
  go_enter Tryz.func171, Tryz.ntmps171
  go_upto_region 2 with fail
  generalize ((((((((((w.alloc (.cells #[.string ⟨#[124, 124]⟩] 9)).alloc (.cells #[.string ⟨#[38, 38]⟩] 9)).alloc (.cells #[.string ⟨#[124]⟩] 9)).alloc (.cells #[.string ⟨#[94]⟩] 9)).alloc (.cells #[.string ⟨#[38]⟩] 9)).alloc (.cells #[.string ⟨#[61, 61]⟩, .string ⟨#[33, 61]⟩] 9)).alloc (.cells #[.string ⟨#[60]⟩, .string ⟨#[62]⟩, .string ⟨#[60, 61]⟩, .string ⟨#[62, 61]⟩] 9)).alloc (.cells #[.string ⟨#[60, 60]⟩, .string ⟨#[62, 62]⟩] 9)).alloc (.cells #[.string ⟨#[43]⟩, .string ⟨#[45]⟩] 9)).alloc (.cells #[.string ⟨#[42]⟩, .string ⟨#[47]⟩, .string ⟨#[37]⟩] 9)).alloc (.cells #[.slice (some ⟨w.heap.size, 0, none⟩) 1 1, .slice (some ⟨w.heap.size + 1, 0, none⟩) 1 1, .slice (some ⟨w.heap.size + 2, 0, none⟩) 1 1, .slice (some ⟨w.heap.size + 3, 0, none⟩) 1 1, .slice (some ⟨w.heap.size + 4, 0, none⟩) 1 1, .slice (some ⟨w.heap.size + 5, 0, none⟩) 2 2, .slice (some ⟨w.heap.size + 6, 0, none⟩) 4 4, .slice (some ⟨w.heap.size + 7, 0, none⟩) 2 2, .slice (some ⟨w.heap.size + 8, 0, none⟩) 2 2, .slice (some ⟨w.heap.size + 9, 0, none⟩) 3 3] 33) = W at *
  go_wp2_with fail
  go_loopg [19] 10 (fun f x wr => ∃ i : Nat, x = .int .i64 i ∧ i ≤ 10 ∧ 10 ≤ i + f ∧ Hid (∀ q, q < i → s ∉ rkRows.getD q []) ∧ W = wr)
  case atStart => exact ⟨0, rfl, by omega, by omega, Lib.hid (fun q h => by omega), rfl⟩
  case round =>
    obtain ⟨io, rfl, hi1, hi2, hN, rfl⟩ := hrel
    obtain ⟨go, rfl⟩ : ∃ x : Nat, x = gk := ⟨_, rfl⟩
    by_cases hlt : io < 10
    · have hir : (io : Int) < 10 := by omega
      have htop : W.cell? ⟨w.heap.size + 10, io, none⟩ = some (.slice (some ⟨w.heap.size + io, 0, none⟩) (rkRows.getD io []).length (rkRows.getD io []).length) := by
        rw [HR.out.top.cell io]
        simp [hlt]
      have htl := HR.out.top.lt
      have hrow := Lib.hid (HR.out.row io hlt)
      have hl4 : (rkRows.getD io []).length ≤ 4 := by
        have : ∀ i, i < 10 → (rkRows.getD i []).length ≤ 4 := by decide
        exact this io hlt
      obtain ⟨row, hrw⟩ : ∃ row, row = rkRows.getD io [] := ⟨_, rfl⟩
      rw [← hrw] at htop hrow hl4
      have HRW := Lib.hid hrw
      clear hrw
      go_wp2_with fail
      go_loopg [26] row.length (fun f x wr => ∃ k : Nat, x = .int .i64 k ∧ k ≤ row.length ∧ row.length ≤ k + f ∧ Hid (∀ j (h : j < row.length), j < k → row[j] ≠ s) ∧ W = wr)
      case atStart => exact ⟨0, rfl, by omega, by omega, Lib.hid (fun j _ h => by omega), rfl⟩
      case round =>
        obtain ⟨k, rfl, hk1, hk2, hM, rfl⟩ := hrel
        by_cases hklt : k < row.length
        · have hkr : (k : Int) < (row.length : Int) := by omega
          have hc : W.cell? ⟨w.heap.size + io, k, none⟩ = some (.string row[k]) := by
            rw [hrow.out.cell k]; simp [hklt]
          have hcl := hrow.out.lt
          by_cases he : row[k] = s
          · have hin := Lib.hid (show s ∈ (rowsX.getD (9 - io) []).map (·.1) from by rw [← rk_names io hlt, ← HRW.out, ← he]; exact List.getElem_mem hklt)
            rw [he] at hc
            clear he
            go_wp2_with fail
            go_ret
            obtain ⟨f, hf⟩ := rowN_some hin.out
            exact ⟨_, rfl, .inr ⟨9 - io, f, by omega, by omega, hf⟩, HB.out⟩
          · have hnl := text_ne he
            have HE := Lib.hid he
            clear he
            obtain ⟨rk, hrk⟩ : ∃ rk, rk = row[k] := ⟨_, rfl⟩
            rw [← hrk] at hc hnl
            have HRK := Lib.hid hrk
            clear hrk
            go_wp2_with fail
            go_roundg (gk - 1)
            case measure => omega
            case rel =>
              refine ⟨k + 1, by go_num, by omega, by omega, Lib.hid (fun j hj hjk => ?_), rfl⟩
              by_cases e : j = k
              · subst e; exact HE.out
              · exact hM.out j hj (by omega)
        · obtain rfl : k = row.length := by omega
          have hno := Lib.hid (show s ∉ row from fun hm => by
            obtain ⟨j, hj, e⟩ := List.getElem_of_mem hm
            exact hM.out j hj hj e)
          go_wp2_with fail
          go_roundg (go - 1)
          case measure => omega
          case rel =>
            refine ⟨io + 1, by go_num, by omega, by omega, Lib.hid (fun q hq => ?_), rfl⟩
            by_cases e : q = io
            · subst e; rw [← HRW.out]; exact hno.out
            · exact hN.out q (by omega)
    · obtain rfl : io = 10 := by omega
      go_wp2_with fail
      go_ret
      refine ⟨_, rfl, .inl ⟨rfl, fun q hq => rowN_none (fun hm => ?_)⟩, HB.out⟩
      have h9 := hN.out (9 - q) (by omega)
      rw [rk_names (9 - q) (by omega), show 9 - (9 - q) = q from by omega] at h9
      exact h9 hm
end Go.Proofs.YtiojnbhomjkkgaaGreatDoor

namespace Go.Proofs.YtiojnbhomjkkgaaGreatDoor
open Go.RowKit

abbrev RvT := Int × Nat × Bool × Bool × Bool
def orQ (f : Bool × Bool × Bool) (x : RvT) : RvT := (x.1, x.2.1, orF f x.2.2)
theorem orF4_no (f : Bool × Bool × Bool) : orF f noF = f := by obtain ⟨a, b, c⟩ := f; simp [orF, noF]
theorem no4_orF (f : Bool × Bool × Bool) : orF noF f = f := by obtain ⟨a, b, c⟩ := f; simp [orF, noF]
theorem orF4_assoc (f g h : Bool × Bool × Bool) : orF (orF f g) h = orF f (orF g h) := by obtain ⟨a, b, c⟩ := f; obtain ⟨a', b', c'⟩ := g; obtain ⟨x, y, z⟩ := h; simp [orF, Bool.or_assoc]
theorem orQ_no (r : Option RvT) : r.map (orQ noF) = r := by
  cases r with
  | none => rfl
  | some x => obtain ⟨a, b, f⟩ := x; simp [orQ, no4_orF]
theorem orQ_orQ (f g : Bool × Bool × Bool) (r : Option RvT) : (r.map (orQ g)).map (orQ f) = r.map (orQ (orF f g)) := by
  cases r with
  | none => rfl
  | some x => obtain ⟨a, b, h⟩ := x; simp [orQ, orF4_assoc]
/-- What is left of the levels below m, from level t on. -/
inductive LsR (L : List (Int × ByteArray × Int)) (m d : Nat) : Nat → Int → Nat → Option RvT → Prop
  | done (v : Int) (i : Nat) : LsR L m d m v i (some (v, i, noF))
  | bad {t : Nat} {v : Int} {i : Nat} : t < m → Rd L (.loop t v) d i none → LsR L m d t v i none
  | next {t : Nat} {v : Int} {i : Nat} {q : RvT} {r : Option RvT} : t < m → Rd L (.loop t v) d i (some q) → LsR L m d (t + 1) q.1 q.2.1 r → LsR L m d t v i (r.map (orQ q.2.2))
section
variable {L : List (Int × ByteArray × Int)} {m d : Nat}
theorem rk_none_up {i t : Nat} (h : Rd L (.lvl t) d i none) : ∀ k, Rd L (.lvl (t + k)) d i none
  | 0 => h
  | k + 1 => rd_lvl_none (rk_none_up h k)
theorem ls_lvl {t : Nat} {v : Int} {j : Nat} {r : Option RvT} (h : LsR L m d t v j r) : ∀ {i : Nat} {f : Bool × Bool × Bool}, Rd L (.lvl t) d i (some (v, j, f)) → Rd L (.lvl m) d i (r.map (orQ f)) := by
  induction h with
  | done v j =>
    intro i f hq
    show Rd L (.lvl m) d i (some (v, j, orF f noF))
    rw [orF4_no]; exact hq
  | @bad t v j ht hl =>
    intro i f hq
    have h1 := rd_lvl hq hl
    have h2 := rk_none_up h1 (m - (t + 1))
    rw [show t + 1 + (m - (t + 1)) = m from by omega] at h2
    exact h2
  | @next t v j q r ht hl hr ih =>
    intro i f hq
    have h1 := rd_lvl hq hl
    have h2 := ih h1
    rw [orQ_orQ]
    exact h2
/-- No sign of the levels below q stands there. -/
def NoR (L : List (Int × ByteArray × Int)) (q i : Nat) : Prop := ∀ t, t < q → rowN t (sgnT L i) = none
theorem rk_loop_end (k : Nat) (hlv : ∀ d i x, Rd L (.lvl k) d i (some x) → NoR L k x.2.1) : ∀ (n : Nat) (v : Int) (d j : Nat) (z : RvT), evT L n (.loop k v) d j = some (some z) → NoR L k j → NoR L (k + 1) z.2.1 := by
  intro n
  induction n with
  | zero => intro v d j z h; simp [evT] at h
  | succ n ih =>
    intro v d j z h hj
    rw [evT] at h
    cases hr : rowN k (sgnT L j) with
    | none =>
      rw [hr] at h
      have e : (v, j, noF) = z := Option.some.inj (Option.some.inj h)
      subst e
      intro t ht
      by_cases e : t = k
      · subst e; exact hr
      · exact hj t (by omega)
    | some f =>
      rw [hr] at h
      obtain ⟨q, hq, e⟩ := Option.bind_eq_some_iff.1 h
      cases q with
      | none => cases e
      | some q =>
        obtain ⟨q2, hq2, e2⟩ := Option.map_eq_some_iff.1 e
        cases q2 with
        | none => cases e2
        | some q2 =>
          have e3 := Option.some.inj e2
          rw [← e3]
          have h9 := ih _ _ _ q2 hq2 (hlv _ _ _ ⟨n, hq⟩)
          exact h9
theorem rk_lvl_end : ∀ (k : Nat) (d i : Nat) (x : RvT), Rd L (.lvl k) d i (some x) → NoR L k x.2.1
  | 0, _, _, _, _ => fun t h => by omega
  | k + 1, d, i, x, h => by
    obtain ⟨n, h⟩ := h
    cases n with
    | zero => simp [evT] at h
    | succ n =>
      rw [evT] at h
      obtain ⟨q, hq, e⟩ := Option.bind_eq_some_iff.1 h
      cases q with
      | none => cases e
      | some q =>
        obtain ⟨q2, hq2, e2⟩ := Option.map_eq_some_iff.1 e
        cases q2 with
        | none => cases e2
        | some q2 =>
          have e3 := Option.some.inj e2
          rw [← e3]
          have h9 := rk_loop_end k (rk_lvl_end k) n _ _ _ q2 hq2 (rk_lvl_end k d i q ⟨n, hq⟩)
          exact h9
theorem ls_skip {q i : Nat} {v : Int} {r : Option RvT} (hn : NoR L q i) (hq : q ≤ m) (h : LsR L m d q v i r) : ∀ k, k ≤ q → LsR L m d (q - k) v i r
  | 0, _ => h
  | k + 1, hk => by
    have h1 := ls_skip hn hq h k (by omega)
    have h2 := LsR.next (L := L) (m := m) (d := d) (t := q - (k + 1)) (v := v) (i := i) (q := (v, i, noF)) (r := r) (by omega) (rd_loop_end (hn _ (by omega))) (by rw [show q - (k + 1) + 1 = q - k from by omega]; exact h1)
    rw [orQ_no] at h2
    exact h2
theorem ls_start {q i : Nat} {v : Int} {r : Option RvT} (hn : NoR L q i) (hq : q ≤ m) (h : LsR L m d q v i r) : LsR L m d 0 v i r := by
  have := ls_skip hn hq h q (Nat.le_refl _)
  rwa [Nat.sub_self] at this
theorem ls_unskip {q i : Nat} {v : Int} {r : Option RvT} (hn : NoR L q i) (hq : q ≤ m) (h : LsR L m d 0 v i r) : ∀ k, k ≤ q → LsR L m d k v i r
  | 0, _ => h
  | k + 1, hk => by
    have h1 := ls_unskip hn hq h k (by omega)
    have he := rd_loop_end (L := L) (d := d) (v := v) (hn k (by omega))
    generalize hk' : k = k' at h1
    cases h1 with
    | done => omega
    | bad _ hb => subst hk'; exact absurd (Rd.det hb he) (by simp)
    | next _ hb hr =>
      subst hk'
      have e := Option.some.inj (Rd.det hb he)
      subst e
      rw [orQ_no]
      exact hr
/-- An operand with its sign. -/
theorem ls_step {q i f : Nat} {v : Int} {y : RvT} {r : Option RvT} (hq : q < m) (hr : rowN q (sgnT L i) = some f) (hn : NoR L q i) (hy : Rd L (.lvl q) d (i + 1) (some y))
    (h : LsR L m d 0 (appT f v (if divB f y.1 = true then 1 else y.1)) y.2.1 r) : LsR L m d 0 v i (r.map (orQ (orF y.2.2 (false, false, divB f y.1)))) := by
  have h1 := ls_unskip (rk_lvl_end q d (i + 1) y hy) (Nat.le_of_lt hq) h q (Nat.le_refl _)
  refine ls_start hn (Nat.le_of_lt hq) ?_
  generalize hv' : appT f v (if divB f y.1 = true then 1 else y.1) = v' at h1
  generalize hj : y.2.1 = j at h1
  cases h1 with
  | done => omega
  | bad _ hb =>
    subst hv' hj
    have h2 := rd_loop hr hy hb
    exact LsR.bad hq h2
  | @next t _ _ z r _ hb hrr =>
    subst hv' hj
    have h2 := rd_loop hr hy hb
    rw [orQ_orQ]
    exact LsR.next hq h2 hrr
theorem ls_bad {q i f : Nat} {v : Int} (hq : q < m) (hr : rowN q (sgnT L i) = some f) (hn : NoR L q i) (hy : Rd L (.lvl q) d (i + 1) none) : LsR L m d 0 v i none :=
  ls_start hn (Nat.le_of_lt hq) (LsR.bad hq (rd_loop_none hr hy))
theorem ls_end {i : Nat} {v : Int} (hn : NoR L m i) : LsR L m d 0 v i (some (v, i, noF)) := ls_start hn (Nat.le_refl _) (LsR.done v i)
end
/-- A sign stands in one row alone. -/
theorem rk_row_one {s : ByteArray} {p q f g : Nat} (h1 : rowN p s = some f) (h2 : rowN q s = some g) (hp : p < 10) (hq : q < 10) : p = q := by
  have hm : ∀ {q f : Nat}, rowN q s = some f → ∃ x ∈ rowsX.getD q [], x.1 = s := by
    intro q f h
    unfold rowN at h
    obtain ⟨x, hx, _⟩ := Option.map_eq_some_iff.1 h
    have := List.find?_some hx
    simp only [decide_eq_true_eq] at this
    exact ⟨x, List.mem_of_find?_eq_some hx, this⟩
  have hd : ((List.range 10).all fun p => (List.range 10).all fun q => (rowsX.getD p []).all fun x => (rowsX.getD q []).all fun y => !(decide (x.1 = y.1)) || decide (p = q)) = true := by decide
  obtain ⟨x, hx, e1⟩ := hm h1
  obtain ⟨y, hy, e2⟩ := hm h2
  have h3 := List.all_eq_true.1 (List.all_eq_true.1 (List.all_eq_true.1 (List.all_eq_true.1 hd p (List.mem_range.2 hp)) q (List.mem_range.2 hq)) x hx) y hy
  rw [e1, e2] at h3
  simpa using h3
end Go.Proofs.YtiojnbhomjkkgaaGreatDoor

namespace Go.Proofs.YtiojnbhomjkkgaaGreatDoor
open Go.RowKit

/-- What a method of the parser leaves. -/
def PrOut (p : Nat) (L : List (Int × ByteArray × Int)) (W : Wh) (d i : Nat) (dp gr dv : Bool) (w : World) (e : Ending) (w' : World) : Prop :=
  ∃ (r : Option RvT) (v : Int), Rd L W d i r ∧ e = .returned (.int .u32 v) ∧ 0 ≤ v ∧ v ≤ 4294967295 ∧ Keeps (fun x => x = p) w w' ∧ match r with
    | none => ∃ j dp' gr' dv', PrsAt w' p L j true dp' gr' dv'
    | some q => (q.2.2.2.2 = false → v = q.1) ∧ PrsAt w' p L q.2.1 false (dp || q.2.2.1) (gr || q.2.2.2.1) (dv || q.2.2.2.2)
def OC (p : Nat) (L : List (Int × ByteArray × Int)) (i : Nat) : Prop := ∀ (w : World) (d : Nat) (dp gr dv : Bool), d ≤ i → PrsAt w p L i false dp gr dv →
  Calls Tryz.prog 50 #[.pointer (some ⟨p, 0, none⟩), .int .i64 (d : Int)] w (PrOut p L .opnd d i dp gr dv w)
def WC (p : Nat) (L : List (Int × ByteArray × Int)) (i : Nat) : Prop := ∀ (w : World) (d : Nat) (dp gr dv : Bool), d ≤ i → PrsAt w p L i false dp gr dv →
  Calls Tryz.prog 47 #[.pointer (some ⟨p, 0, none⟩), .int .i64 (d : Int)] w (PrOut p L .whole d i dp gr dv w)
def RC (p : Nat) (L : List (Int × ByteArray × Int)) (i : Nat) : Prop := ∀ (m : Nat) (w : World) (d : Nat) (dp gr dv : Bool), m ≤ 10 → d ≤ i → PrsAt w p L i false dp gr dv →
  Calls Tryz.prog 92 #[.pointer (some ⟨p, 0, none⟩), .int .i64 (11 - (m : Int)), .int .i64 (d : Int)] w (PrOut p L (.lvl m) d i dp gr dv w)
theorem rd_lt {L : List (Int × ByteArray × Int)} {W : Wh} {d i : Nat} {q : RvT} (h : Rd L W d i (some q)) (hk : okW W) (hl : isLoop W = false) : i < q.2.1 := by
  obtain ⟨r, hr, h2⟩ := ev_total L _ W d i hk (Nat.le_refl _)
  have e := Rd.det h ⟨_, hr⟩
  exact (h2 q e.symm).2 hl
theorem num_fin {w1 : World} {p : Nat} {L : List (Int × ByteArray × Int)} {i : Nat} {dp gr dv : Bool} (h : PrsAt w1 p L i false dp gr dv) (hi : i + 1 ≤ L.length) (n m : Nat) (x y : Bool) :
    PrsAt (((((w1.drewN n).setCell ⟨p, 3, none⟩ (.bool x)).drewN m).setCell ⟨p, 4, none⟩ (.bool y)).setCell ⟨p, 1, none⟩ (.int .i64 ((i : Int) + 1))) p L (i + 1) false x y dv ∧
      Keeps (fun b => b = p) w1 (((((w1.drewN n).setCell ⟨p, 3, none⟩ (.bool x)).drewN m).setCell ⟨p, 4, none⟩ (.bool y)).setCell ⟨p, 1, none⟩ (.int .i64 ((i : Int) + 1))) := by
  obtain ⟨a1, b1⟩ := (h.keeps (keeps_draws w1 n)).put 3 (.bool x) (i' := i) (syn' := false) (dp' := x) (gr' := gr) (dv' := dv) (by omega) (fun _ => rfl)
  obtain ⟨a2, b2⟩ := (a1.keeps (keeps_draws _ m)).put 4 (.bool y) (i' := i) (syn' := false) (dp' := x) (gr' := y) (dv' := dv) (by omega) (fun _ => rfl)
  obtain ⟨a3, b3⟩ := a2.next hi
  refine ⟨a3, ?_⟩
  have k1 := ((keeps_draws w1 n).mono (S := fun b => b = p) (fun _ _ e => e.elim)).trans b1 (fun _ _ e => e)
  have k2 := (k1.trans ((keeps_draws _ m).mono (S := fun b => b = p) (fun _ _ e => e.elim)) (fun _ _ e => e)).trans b2 (fun _ _ e => e)
  exact k2.trans b3 (fun _ _ e => e)
theorem num_out {w w1 : World} {p : Nat} {L : List (Int × ByteArray × Int)} {i d : Nat} {dp gr dv : Bool} {x : Int} (h : PrsAt w1 p L i false dp gr dv) (k : Keeps (fun b => b = p) w w1) (hi : i + 1 ≤ L.length) (hrd : Rd L .opnd d i (some (x % 4294967296, i + 1, decide (8 < d), decide (x < 0) || decide (4294967295 < x), false))) (n m : Nat) (X Y : Bool) (hX : X = (dp || decide (8 < d))) (hY : Y = (gr || (decide (x < 0) || decide (4294967295 < x)))) :
    PrOut p L .opnd d i dp gr dv w (.returned (.int .u32 (x % 4294967296))) (((((w1.drewN n).setCell ⟨p, 3, none⟩ (.bool X)).drewN m).setCell ⟨p, 4, none⟩ (.bool Y)).setCell ⟨p, 1, none⟩ (.int .i64 ((i : Int) + 1))) := by
  obtain ⟨a, b⟩ := num_fin h hi n m X Y
  refine ⟨_, _, hrd, rfl, by omega, by omega, k.trans b (fun _ _ e => e), fun _ => rfl, ?_⟩
  rw [Bool.or_false, ← hX, ← hY]
  exact a
set_option maxRecDepth 100000 in
set_option maxHeartbeats 8000000 in
/-- An operand that is a number, or none. -/
theorem r2_oper_num (p : Nat) (L : List (Int × ByteArray × Int)) (i : Nat) (w : World) (d : Nat) (dp gr dv : Bool) (hd : d ≤ i) (h : PrsAt w p L i false dp gr dv) (hu : unB (sgnT L i) = false) (hs : sgnT L i ≠ ⟨#[40]⟩) :
    Calls Tryz.prog 50 #[.pointer (some ⟨p, 0, none⟩), .int .i64 (d : Int)] w (PrOut p L .opnd d i dp gr dv w) := by
  have hsg := Lib.hid (r2_sign p L i false dp gr dv w h)
  have n40 : ((sgnT L i).toList == [40]) = false := by rw [beq_eq_false_iff_ne]; intro e; exact hs (text_of e)
  have n45 : ((sgnT L i).toList == [45]) = false := by rw [beq_eq_false_iff_ne]; intro e; rw [text_of (l := [45]) e] at hu; cases hu
  have n126 : ((sgnT L i).toList == [126]) = false := by rw [beq_eq_false_iff_ne]; intro e; rw [text_of (l := [126]) e] at hu; cases hu
  have n33 : ((sgnT L i).toList == [33]) = false := by rw [beq_eq_false_iff_ne]; intro e; rw [text_of (l := [33]) e] at hu; cases hu
  obtain ⟨_, _, _, _, _, _, _, _, _, _, _, hiL, hLb⟩ := h.cells
  have HS := Lib.hid hs
  have HU := Lib.hid hu
  unfold PSignPost at hsg
  have hdI : (d : Int) ≤ 1000000000 := by omega
  clear hs hu h
  obtain ⟨t, ht⟩ : ∃ t, t = sgnT L i := ⟨_, rfl⟩
  rw [← ht] at hsg n40 n45 n126 n33
  clear ht
  go_enter Tryz.func50, Tryz.ntmps50
  go_wp2_with fail
  refine (by exact hsg.out : Calls _ _ _ _ _).mono ?_
  rintro e w1 ⟨rfl, hr1, hk1⟩
  have HK1 := Lib.hid (hk1.mono (S := fun b => b = p) (fun _ _ e => e.elim))
  have HR1 := Lib.hid hr1
  obtain ⟨c1, c2, c3, c4, c5, f1, f2, f3, f4, f5, cl, _, _⟩ := hr1.cells
  obtain ⟨lv, hH, ⟨a, cap, rfl, hsz, hTk⟩, _⟩ := hr1
  have c0 := hH.cell 0
  have HTK := Lib.hid hTk
  clear hH hTk hsz hk1
  have hbad : (∀ t, L[i]? = some t → t.1 ≠ 2) → Rd L .opnd d i none := fun hb => rd_op HU.out (rd_nonum HS.out hb)
  have HBAD := Lib.hid hbad
  clear hbad
  by_cases hlt : i < L.length
  · have hltI : (i : Int) < (L.length : Int) := by omega
    have hltI2 : ¬ ((L.length : Int) ≤ (i : Int)) := by omega
    obtain ⟨gt, ot, rfl, _, hc⟩ := HTK.out (by omega)
    obtain ⟨d0, d1, d2⟩ := hc i hlt
    have hat := Lib.hid (show L[i]? = some L[i] from List.getElem?_eq_getElem hlt)
    by_cases hk : L[i].1 = 2
    · have HRD := Lib.hid (rd_op HU.out (rd_num (d := d) HS.out hat.out hk))
      rw [hk] at d0
      clear hc d1 hk HBAD hat
      generalize L[i].2.2 = x at *
      cases dp with
      | true =>
        cases gr with
        | true =>
          go_wp2_with fail
          go_quiet (fail)
          go_wp2_with fail
          go_quiet (fail)
          go_wp2_with fail
          go_ret
          exact num_out HR1.out HK1.out (by omega) HRD.out _ _ true true (by rfl) (by rfl)
        | false =>
          by_cases hx0 : x < 0
          · go_wp2_with fail
            go_quiet (fail)
            go_wp2_with fail
            go_quiet (fail)
            go_wp2_with fail
            go_ret
            exact num_out HR1.out HK1.out (by omega) HRD.out _ _ true true (by rfl) (by rw [decide_eq_true hx0]; rfl)
          · by_cases hx1 : 4294967295 < x
            · go_wp2_with fail
              go_quiet (fail)
              go_wp2_with fail
              go_quiet (fail)
              go_wp2_with fail
              go_ret
              exact num_out HR1.out HK1.out (by omega) HRD.out _ _ true true (by rfl) (by rw [decide_eq_true hx1]; simp)
            · go_wp2_with fail
              go_quiet (fail)
              go_wp2_with fail
              go_quiet (fail)
              go_wp2_with fail
              go_ret
              have hnum := fun a b => num_out HR1.out HK1.out (by omega) HRD.out a b true (decide (x < 0) || decide ((4294967295 : Int) < x)) (by rfl) (by rfl)
              rw [show x % 4294967296 = x from by omega] at hnum
              exact hnum _ _
      | false =>
        cases gr with
        | true =>
          go_wp2_with fail
          go_quiet (fail)
          go_wp2_with fail
          go_quiet (fail)
          go_wp2_with fail
          go_ret
          exact num_out HR1.out HK1.out (by omega) HRD.out _ _ (decide ((8 : Int) < (d : Int))) true (by rw [Bool.false_or]; exact decide_eq_decide.2 (by omega)) (by rfl)
        | false =>
          by_cases hx0 : x < 0
          · go_wp2_with fail
            go_quiet (fail)
            go_wp2_with fail
            go_quiet (fail)
            go_wp2_with fail
            go_ret
            exact num_out HR1.out HK1.out (by omega) HRD.out _ _ (decide ((8 : Int) < (d : Int))) true (by rw [Bool.false_or]; exact decide_eq_decide.2 (by omega)) (by rw [decide_eq_true hx0]; rfl)
          · by_cases hx1 : 4294967295 < x
            · go_wp2_with fail
              go_quiet (fail)
              go_wp2_with fail
              go_quiet (fail)
              go_wp2_with fail
              go_ret
              exact num_out HR1.out HK1.out (by omega) HRD.out _ _ (decide ((8 : Int) < (d : Int))) true (by rw [Bool.false_or]; exact decide_eq_decide.2 (by omega)) (by rw [decide_eq_true hx1]; simp)
            · go_wp2_with fail
              go_quiet (fail)
              go_wp2_with fail
              go_quiet (fail)
              go_wp2_with fail
              go_ret
              have hnum := fun a b => num_out HR1.out HK1.out (by omega) HRD.out a b (decide ((8 : Int) < (d : Int))) (decide (x < 0) || decide ((4294967295 : Int) < x)) (by rw [Bool.false_or]; exact decide_eq_decide.2 (by omega)) (by rfl)
              rw [show x % 4294967296 = x from by omega] at hnum
              exact hnum _ _
    · have hkb : (L[i].1 != 2) = true := by simpa using hk
      have HN := Lib.hid (HBAD.out (fun t e => by rw [hat.out] at e; cases e; exact hk))
      clear hc d1 d2 hk hat HBAD
      generalize L[i].1 = kd at *
      go_wp2_with fail
      go_quiet (fail)
      go_wp2_with fail
      go_ret
      obtain ⟨h2, h3⟩ := (HR1.out.keeps (keeps_draws _ _)).put 2 (.bool true) (i' := i) (syn' := true) (dp' := dp) (gr' := gr) (dv' := dv) (by omega) (fun _ => rfl)
      exact ⟨none, 0, HN.out, rfl, by omega, by omega, (HK1.out.trans ((keeps_draws _ _).mono (S := fun b => b = p) (fun _ _ e => e.elim)) (fun _ _ e => e)).trans h3 (fun _ _ e => e), _, _, _, _, h2⟩
  · have hltI : ¬ (i : Int) < (L.length : Int) := by omega
    have hltI2 : (L.length : Int) ≤ (i : Int) := by omega
    have HN := Lib.hid (HBAD.out (fun t e => by rw [List.getElem?_eq_none (by omega)] at e; cases e))
    clear HBAD
    go_wp2_with fail
    go_quiet (fail)
    go_wp2_with fail
    go_ret
    obtain ⟨h2, h3⟩ := (HR1.out.keeps (keeps_draws _ _)).put 2 (.bool true) (i' := i) (syn' := true) (dp' := dp) (gr' := gr) (dv' := dv) (by omega) (fun _ => rfl)
    exact ⟨none, 0, HN.out, rfl, by omega, by omega, (HK1.out.trans ((keeps_draws _ _).mono (S := fun b => b = p) (fun _ _ e => e.elim)) (fun _ _ e => e)).trans h3 (fun _ _ e => e), _, _, _, _, h2⟩
end Go.Proofs.YtiojnbhomjkkgaaGreatDoor

namespace Go.Proofs.YtiojnbhomjkkgaaGreatDoor
open Go.RowKit

theorem un_out {p : Nat} {L : List (Int × ByteArray × Int)} {i d : Nat} {dp gr dv : Bool} {w w1 w2 : World} {v : Int} (hu : unB (sgnT L i) = true) (k : Keeps (fun x => x = p) w w1) (h : PrOut p L .opnd d (i + 1) dp gr dv w1 (.returned (.int .u32 v)) w2) :
    PrOut p L .opnd d i dp gr dv w (.returned (.int .u32 (unT (sgnT L i) v))) w2 := by
  obtain ⟨r, u, hr, e, h0, h1, kk, hm⟩ := h
  obtain rfl : v = u := by injection e with e; injection e
  obtain ⟨b0, b1⟩ := un_bounds (sgnT L i) v h0 h1
  refine ⟨_, _, rd_un hu hr, rfl, b0, b1, k.trans kk (fun _ _ e => e), ?_⟩
  cases r with
  | none => exact hm
  | some q => exact ⟨fun e => by rw [hm.1 e], hm.2⟩
theorem PrOut.val {p : Nat} {L : List (Int × ByteArray × Int)} {W : Wh} {i d : Nat} {dp gr dv : Bool} {w w' : World} {e : Ending} (h : PrOut p L W d i dp gr dv w e w') : ∃ v : Int, e = .returned (.int .u32 v) ∧ 0 ≤ v ∧ v ≤ 4294967295 ∧ Keeps (fun x => x = p) w w' := by
  obtain ⟨r, u, _, e, h0, h1, kk, _⟩ := h
  exact ⟨u, e, h0, h1, kk⟩
set_option maxRecDepth 100000 in
set_option maxHeartbeats 8000000 in
theorem r2_oper_un (p : Nat) (L : List (Int × ByteArray × Int)) (i : Nat) (hO : i + 1 ≤ L.length → OC p L (i + 1)) (w : World) (d : Nat) (dp gr dv : Bool) (hd : d ≤ i) (h : PrsAt w p L i false dp gr dv) (hu : unB (sgnT L i) = true) :
    Calls Tryz.prog 50 #[.pointer (some ⟨p, 0, none⟩), .int .i64 (d : Int)] w (PrOut p L .opnd d i dp gr dv w) := by
  have hsg := r2_sign p L i false dp gr dv w h
  unfold PSignPost at hsg
  have hn : i + 1 ≤ L.length := sgn_in (by intro e; rw [e] at hu; cases hu)
  have HO := Lib.hid (hO hn)
  obtain ⟨_, _, _, _, _, _, _, _, _, _, _, hiL, hLb⟩ := h.cells
  have HU := Lib.hid (fun (w1 w2 : World) (v : Int) (k : Keeps (fun x => x = p) w w1) (ho : PrOut p L .opnd d (i + 1) dp gr dv w1 (.returned (.int .u32 v)) w2) => un_out (w := w) hu k ho)
  have hdI : (d : Int) ≤ 1000000000 := by omega
  clear hO h
  rcases un_cases hu with hs | hs | hs
  · rw [hs] at hsg HU
    have HSG := Lib.hid hsg
    clear hsg hs hu
    go_enter Tryz.func50, Tryz.ntmps50
    go_wp2_with fail
    refine (by exact HSG.out : Calls _ _ _ _ _).mono ?_
    rintro e w1 ⟨rfl, hr1, hk1⟩
    have HK1 := Lib.hid (hk1.mono (S := fun b => b = p) (fun _ _ e => e.elim))
    have HR1 := Lib.hid hr1
    obtain ⟨c1, _, _, _, _, f1, _, _, _, _, cl, _, _⟩ := hr1.cells
    clear hr1 hk1
    go_wp2_with fail
    refine (by exact HO.out _ d dp gr dv (by omega) (HR1.out.next hn).1 : Calls _ _ _ _ _).mono ?_
    rintro e w2 ho
    obtain ⟨v, rfl, v0, v1, _⟩ := ho.val
    have HOO := Lib.hid ho
    clear ho
    go_wp2_with fail
    go_ret
    exact HU.out _ _ _ (HK1.out.trans (HR1.out.next hn).2 (fun _ _ e => e)) HOO.out
  · rw [hs] at hsg HU
    have HSG := Lib.hid hsg
    clear hsg hs hu
    go_enter Tryz.func50, Tryz.ntmps50
    go_wp2_with fail
    refine (by exact HSG.out : Calls _ _ _ _ _).mono ?_
    rintro e w1 ⟨rfl, hr1, hk1⟩
    have HK1 := Lib.hid (hk1.mono (S := fun b => b = p) (fun _ _ e => e.elim))
    have HR1 := Lib.hid hr1
    obtain ⟨c1, _, _, _, _, f1, _, _, _, _, cl, _, _⟩ := hr1.cells
    clear hr1 hk1
    go_wp2_with fail
    refine (by exact HO.out _ d dp gr dv (by omega) (HR1.out.next hn).1 : Calls _ _ _ _ _).mono ?_
    rintro e w2 ho
    obtain ⟨v, rfl, v0, v1, _⟩ := ho.val
    have HOO := Lib.hid ho
    clear ho
    go_wp2_with fail
    go_ret
    have hfin := HU.out _ _ _ (HK1.out.trans (HR1.out.next hn).2 (fun _ _ e => e)) HOO.out
    rw [xor_all v v0 v1]
    exact hfin
  · rw [hs] at hsg HU
    have HSG := Lib.hid hsg
    clear hsg hs hu
    go_enter Tryz.func50, Tryz.ntmps50
    go_wp2_with fail
    refine (by exact HSG.out : Calls _ _ _ _ _).mono ?_
    rintro e w1 ⟨rfl, hr1, hk1⟩
    have HK1 := Lib.hid (hk1.mono (S := fun b => b = p) (fun _ _ e => e.elim))
    have HR1 := Lib.hid hr1
    obtain ⟨c1, _, _, _, _, f1, _, _, _, _, cl, _, _⟩ := hr1.cells
    clear hr1 hk1
    go_wp2_with fail
    refine (by exact HO.out _ d dp gr dv (by omega) (HR1.out.next hn).1 : Calls _ _ _ _ _).mono ?_
    rintro e w2 ho
    obtain ⟨v, rfl, v0, v1, _⟩ := ho.val
    have HOO := Lib.hid ho
    clear ho
    go_wp2_with fail
    refine (r2_truth _ _).mono ?_
    rintro e w' ⟨rfl, rfl⟩
    go_wp2_with fail
    go_ret
    exact HU.out _ _ _ (HK1.out.trans (HR1.out.next hn).2 (fun _ _ e => e)) HOO.out
/-- What stands behind an open bracket. -/
theorem par_out {p : Nat} {L : List (Int × ByteArray × Int)} {i d : Nat} {dp gr dv : Bool} {w w1 w2 w3 : World} {v : Int} (hs : sgnT L i = ⟨#[40]⟩) (k : Keeps (fun x => x = p) w w1) (h : PrOut p L .whole (d + 1) (i + 1) dp gr dv w1 (.returned (.int .u32 v)) w2)
    (hk : Keeps (fun x => x = p) w2 w3) (hb : (∃ j dp' gr' dv', PrsAt w2 p L j true dp' gr' dv') → ∃ j dp' gr' dv', PrsAt w3 p L j true dp' gr' dv')
    (ht : ∀ j dp' gr' dv', PrsAt w2 p L j false dp' gr' dv' → (sgnT L j = ⟨#[41]⟩ → PrsAt w3 p L (j + 1) false dp' gr' dv') ∧ (sgnT L j ≠ ⟨#[41]⟩ → PrsAt w3 p L j true dp' gr' dv')) :
    PrOut p L .opnd d i dp gr dv w (.returned (.int .u32 v)) w3 := by
  have hu : unB (sgnT L i) = false := by rw [hs]; decide
  obtain ⟨r, u, hr, e, h0, h1, kk, hm⟩ := h
  obtain rfl : v = u := by injection e with e; injection e
  have hkk := (k.trans kk (fun _ _ e => e)).trans hk (fun _ _ e => e)
  cases r with
  | none => exact ⟨none, v, rd_op hu (rd_par_none hs hr), rfl, h0, h1, hkk, hb hm⟩
  | some q =>
    obtain ⟨hv, ha⟩ := hm
    obtain ⟨t1, t2⟩ := ht _ _ _ _ ha
    by_cases hc : sgnT L q.2.1 = ⟨#[41]⟩
    · exact ⟨some (q.1, q.2.1 + 1, q.2.2), v, rd_op hu (rd_par hs hr hc), rfl, h0, h1, hkk, hv, t1 hc⟩
    · exact ⟨none, v, rd_op hu (rd_par_bad hs hr hc), rfl, h0, h1, hkk, _, _, _, _, t2 hc⟩
set_option maxRecDepth 100000 in
set_option maxHeartbeats 8000000 in
theorem r2_oper_par (p : Nat) (L : List (Int × ByteArray × Int)) (i : Nat) (hW : i + 1 ≤ L.length → WC p L (i + 1)) (w : World) (d : Nat) (dp gr dv : Bool) (hd : d ≤ i) (h : PrsAt w p L i false dp gr dv) (hs : sgnT L i = ⟨#[40]⟩) :
    Calls Tryz.prog 50 #[.pointer (some ⟨p, 0, none⟩), .int .i64 (d : Int)] w (PrOut p L .opnd d i dp gr dv w) := by
  have hsg := r2_sign p L i false dp gr dv w h
  unfold PSignPost at hsg
  have hn : i + 1 ≤ L.length := sgn_in (by rw [hs]; intro e; cases e)
  have HW := Lib.hid (hW hn)
  obtain ⟨_, _, _, _, _, _, _, _, _, _, _, hiL, hLb⟩ := h.cells
  have HS := Lib.hid hs
  have hdI : (d : Int) ≤ 1000000000 := by omega
  rw [hs] at hsg
  have HSG := Lib.hid hsg
  clear hW h hs hsg
  go_enter Tryz.func50, Tryz.ntmps50
  go_wp2_with fail
  refine (by exact HSG.out : Calls _ _ _ _ _).mono ?_
  rintro e w1 ⟨rfl, hr1, hk1⟩
  have HK1 := Lib.hid (hk1.mono (S := fun b => b = p) (fun _ _ e => e.elim))
  have HR1 := Lib.hid hr1
  obtain ⟨c1, _, _, _, _, f1, _, _, _, _, cl, _, _⟩ := hr1.cells
  clear hr1 hk1
  go_wp2_with fail
  refine (by exact HW.out _ (d + 1) dp gr dv (by omega) (HR1.out.next hn).1 : Calls _ _ _ _ _).mono ?_
  rintro e w2 ho
  obtain ⟨v, rfl, v0, v1, _⟩ := ho.val
  obtain ⟨j, syn', dp', gr', dv', ha⟩ : ∃ j syn' dp' gr' dv', PrsAt w2 p L j syn' dp' gr' dv' := by
    obtain ⟨r, _, _, _, _, _, _, hm⟩ := ho
    cases r with
    | none => obtain ⟨j, a, b, c, h⟩ := hm; exact ⟨j, true, a, b, c, h⟩
    | some q => exact ⟨_, _, _, _, _, hm.2⟩
  have HOO := Lib.hid ho
  have HA := Lib.hid ha
  clear ho ha
  go_wp2_with fail
  refine (r2_take p L j syn' dp' gr' dv' ⟨#[41]⟩ w2 HA.out (by intro e; cases e)).mono ?_
  rintro e w3 ⟨rfl, hk3, t1, t2⟩
  have HK3 := Lib.hid hk3
  have T := Lib.hid (And.intro t1 t2)
  clear hk3 t1 t2
  go_wp2_with fail
  go_ret
  have same : ∀ j2 syn2 dp2 gr2 dv2, PrsAt w2 p L j2 syn2 dp2 gr2 dv2 → j = j2 ∧ syn' = syn2 ∧ dp' = dp2 ∧ gr' = gr2 ∧ dv' = dv2 := by
    intro j2 syn2 dp2 gr2 dv2 h2
    obtain ⟨a1, a2, a3, a4, a5, _⟩ := HA.out.cells
    obtain ⟨b1, b2, b3, b4, b5, _⟩ := h2.cells
    rw [a1] at b1; rw [a2] at b2; rw [a3] at b3; rw [a4] at b4; rw [a5] at b5
    injection b1 with b1; injection b1 with _ b1
    injection b2 with b2; injection b2 with b2
    injection b3 with b3; injection b3 with b3
    injection b4 with b4; injection b4 with b4
    injection b5 with b5; injection b5 with b5
    exact ⟨by omega, b2, b3, b4, b5⟩
  refine par_out HS.out (HK1.out.trans (HR1.out.next hn).2 (fun _ _ e => e)) HOO.out HK3.out ?_ ?_
  · rintro ⟨j2, a, b, c, h2⟩
    obtain ⟨_, rfl, _⟩ := same _ _ _ _ _ h2
    by_cases hc : sgnT L j = ⟨#[41]⟩
    · exact ⟨_, _, _, _, T.out.1 hc⟩
    · exact ⟨_, _, _, _, T.out.2 hc⟩
  · intro j2 a b c h2
    obtain ⟨rfl, rfl, rfl, rfl, rfl⟩ := same _ _ _ _ _ h2
    exact T.out
theorem r2_operand (p : Nat) (L : List (Int × ByteArray × Int)) (i : Nat) (hO : i + 1 ≤ L.length → OC p L (i + 1)) (hW : i + 1 ≤ L.length → WC p L (i + 1)) : OC p L i := by
  intro w d dp gr dv hd h
  cases hu : unB (sgnT L i) with
  | true => exact r2_oper_un p L i hO w d dp gr dv hd h hu
  | false =>
    by_cases hs : sgnT L i = ⟨#[40]⟩
    · exact r2_oper_par p L i hW w d dp gr dv hd h hs
    · exact r2_oper_num p L i w d dp gr dv hd h hu hs
end Go.Proofs.YtiojnbhomjkkgaaGreatDoor

namespace Go.Proofs.YtiojnbhomjkkgaaGreatDoor
open Go.RowKit

def nameX : Nat → ByteArray
  | 1 => ⟨#[42]⟩ | 2 => ⟨#[47]⟩ | 3 => ⟨#[37]⟩ | 4 => ⟨#[43]⟩ | 5 => ⟨#[45]⟩ | 6 => ⟨#[60, 60]⟩ | 7 => ⟨#[62, 62]⟩ | 8 => ⟨#[60]⟩ | 9 => ⟨#[62]⟩ | 10 => ⟨#[60, 61]⟩ | 11 => ⟨#[62, 61]⟩ | 12 => ⟨#[61, 61]⟩ | 13 => ⟨#[33, 61]⟩ | 14 => ⟨#[38]⟩ | 15 => ⟨#[94]⟩ | 16 => ⟨#[124]⟩ | 17 => ⟨#[38, 38]⟩ | 18 => ⟨#[124, 124]⟩
  | _ => ⟨#[]⟩
theorem name_facts : ∀ k, k < 10 → ∀ p ∈ rowsX.getD k [], p.1 = nameX p.2 := by decide
theorem rowN_name {k : Nat} (hk : k < 10) {s : ByteArray} {f : Nat} (h : rowN k s = some f) : s = nameX f := by
  unfold rowN at h
  obtain ⟨p, hp, e⟩ := Option.map_eq_some_iff.1 h
  have h1 := List.mem_of_find?_eq_some hp
  have h2 := List.find?_some hp
  simp only [decide_eq_true_eq] at h2
  rw [← h2, ← e]
  exact name_facts k hk p h1
theorem r2_apply (p : Nat) (L : List (Int × ByteArray × Int)) (i : Nat) (syn dp gr dv : Bool) (f : Nat) (h1 : 1 ≤ f) (h2 : f ≤ 18) (a b : Int) (w : World) (h : PrsAt w p L i syn dp gr dv) (ha : 0 ≤ a) (ha1 : a ≤ 4294967295) (hb : 0 ≤ b) (hb1 : b ≤ 4294967295) :
    Calls Tryz.prog 172 #[.pointer (some ⟨p, 0, none⟩), .string (nameX f), .int .u32 a, .int .u32 b] w (PAppPost p L i syn dp gr dv f a b w) := by
  match f, h1, h2 with
  | 1, _, _ => exact r2_app1 p L i syn dp gr dv a b w h ha ha1 hb hb1
  | 2, _, _ => exact r2_app2 p L i syn dp gr dv a b w h ha ha1 hb hb1
  | 3, _, _ => exact r2_app3 p L i syn dp gr dv a b w h ha ha1 hb hb1
  | 4, _, _ => exact r2_app4 p L i syn dp gr dv a b w h ha ha1 hb hb1
  | 5, _, _ => exact r2_app5 p L i syn dp gr dv a b w h ha ha1 hb hb1
  | 6, _, _ => exact r2_app6 p L i syn dp gr dv a b w h ha ha1 hb hb1
  | 7, _, _ => exact r2_app7 p L i syn dp gr dv a b w h ha ha1 hb hb1
  | 8, _, _ => exact r2_app8 p L i syn dp gr dv a b w h ha ha1 hb hb1
  | 9, _, _ => exact r2_app9 p L i syn dp gr dv a b w h ha ha1 hb hb1
  | 10, _, _ => exact r2_app10 p L i syn dp gr dv a b w h ha ha1 hb hb1
  | 11, _, _ => exact r2_app11 p L i syn dp gr dv a b w h ha ha1 hb hb1
  | 12, _, _ => exact r2_app12 p L i syn dp gr dv a b w h ha ha1 hb hb1
  | 13, _, _ => exact r2_app13 p L i syn dp gr dv a b w h ha ha1 hb hb1
  | 14, _, _ => exact r2_app14 p L i syn dp gr dv a b w h ha ha1 hb hb1
  | 15, _, _ => exact r2_app15 p L i syn dp gr dv a b w h ha ha1 hb hb1
  | 16, _, _ => exact r2_app16 p L i syn dp gr dv a b w h ha ha1 hb hb1
  | 17, _, _ => exact r2_app17 p L i syn dp gr dv a b w h ha ha1 hb hb1
  | 18, _, _ => exact r2_app18 p L i syn dp gr dv a b w h ha ha1 hb hb1
  | 0, h, _ => omega
  | _ + 19, _, h => omega
/-- What the loop of row holds: v is what it has, v0 what is meant. -/
def RowR (p : Nat) (L : List (Int × ByteArray × Int)) (m d i : Nat) (dp gr dv : Bool) (v : Int) (syn : Bool) (j : Nat) (w : World) : Prop :=
  0 ≤ v ∧ v ≤ 4294967295 ∧ if syn = true then Rd L (.lvl m) d i none ∧ ∃ dp' gr' dv', PrsAt w p L j true dp' gr' dv'
    else ∃ (v0 : Int) (F : Bool × Bool × Bool), i ≤ j ∧ (F.2.2 = false → v = v0) ∧ (∀ r, LsR L m d 0 v0 j r → Rd L (.lvl m) d i (r.map (orQ F))) ∧ PrsAt w p L j false (dp || F.1) (gr || F.2.1) (dv || F.2.2)
section
variable {p : Nat} {L : List (Int × ByteArray × Int)} {m d i j : Nat} {dp gr dv syn : Bool} {w w' : World} {v : Int}
theorem RowR.keeps (h : RowR p L m d i dp gr dv v syn j w) (k : Keeps (fun _ => False) w w') : RowR p L m d i dp gr dv v syn j w' := by
  unfold RowR at h ⊢
  refine ⟨h.1, h.2.1, ?_⟩
  cases syn with
  | true => obtain ⟨hr, a, b, c, h2⟩ := h.2.2; exact ⟨hr, a, b, c, h2.keeps k⟩
  | false => obtain ⟨v0, F, h0, h1, h2, h3⟩ := h.2.2; exact ⟨v0, F, h0, h1, h2, h3.keeps k⟩
theorem RowR.prs (h : RowR p L m d i dp gr dv v syn j w) : ∃ dp' gr' dv', PrsAt w p L j syn dp' gr' dv' := by
  cases syn with
  | true => exact h.2.2.2
  | false => obtain ⟨v0, F, _, _, _, h3⟩ := h.2.2; exact ⟨_, _, _, h3⟩
/-- The first operand. -/
theorem row_start {e : Ending} (h : PrOut p L .opnd d i dp gr dv w e w') : ∃ v syn j, e = .returned (.int .u32 v) ∧ RowR p L m d i dp gr dv v syn j w' := by
  obtain ⟨r, v, hr, rfl, h0, h1, _, hm⟩ := h
  cases r with
  | none =>
    obtain ⟨j, a, b, c, hj⟩ := hm
    have h2 := rk_none_up (rd_lvl0 hr) m
    rw [Nat.zero_add] at h2
    exact ⟨v, true, j, rfl, h0, h1, h2, a, b, c, hj⟩
  | some q =>
    have hq := rd_lt hr (by trivial) rfl
    refine ⟨v, false, q.2.1, rfl, h0, h1, q.1, q.2.2, by omega, hm.1, ?_, hm.2⟩
    intro r hl
    exact ls_lvl hl (rd_lvl0 hr)
/-- No sign of the row's levels follows. -/
theorem row_stop (h : RowR p L m d i dp gr dv v false j w') (k : Keeps (fun x => x = p) w w') (hn : NoR L m j) : PrOut p L (.lvl m) d i dp gr dv w (.returned (.int .u32 v)) w' := by
  obtain ⟨h0, h1, v0, F, _, hv, hb, ha⟩ := h
  have h2 := hb _ (ls_end hn)
  have e : (some (v0, j, noF)).map (orQ F) = some (v0, j, F) := by show some (v0, j, orF F noF) = _; rw [orF4_no]
  rw [e] at h2
  exact ⟨_, v, h2, rfl, h0, h1, k, hv, ha⟩
theorem row_fail (h : RowR p L m d i dp gr dv v true j w') (k : Keeps (fun x => x = p) w w') : PrOut p L (.lvl m) d i dp gr dv w (.returned (.int .u32 v)) w' := by
  obtain ⟨h0, h1, hr, a, b, c, ha⟩ := h
  exact ⟨none, v, hr, rfl, h0, h1, k, j, a, b, c, ha⟩
/-- A sign and its right hand. -/
theorem row_turn {w1 w2 w3 : World} {q f j2 : Nat} {u : Int} {syn2 : Bool} {dp2 gr2 dv2 a' b' c' : Bool} (h : RowR p L m d i dp gr dv v false j w) (hq : q < m) (hm : m ≤ 10) (hr : rowN q (sgnT L j) = some f) (hn : NoR L q j)
    (hy : PrOut p L (.lvl q) d (j + 1) (dp2) (gr2) (dv2) w1 (.returned (.int .u32 u)) w2) (hp : PrsAt w p L j false dp2 gr2 dv2) (hp3 : PrsAt w2 p L j2 syn2 a' b' c')
    (hz : PrsAt w3 p L j2 syn2 a' b' (c' || divB f u)) :
    RowR p L m d i dp gr dv (if divB f u = true then 0 else appT f v u) syn2 j2 w3 ∧ (syn2 = false → j < j2) := by
  obtain ⟨h0, h1, v0, F, hij, hv, hb, ha⟩ := h
  obtain ⟨r, u', hrd, e, u0, u1, _, hm2⟩ := hy
  obtain rfl : u = u' := by injection e with e; injection e
  have same : ∀ {wx : World} {j1 j2 : Nat} {s1 s2 a1 b1 c1 a2 b2 c2 : Bool}, PrsAt wx p L j1 s1 a1 b1 c1 → PrsAt wx p L j2 s2 a2 b2 c2 → j1 = j2 ∧ s1 = s2 ∧ a1 = a2 ∧ b1 = b2 ∧ c1 = c2 := by
    intro wx j1 j2 s1 s2 a1 b1 c1 a2 b2 c2 x1 x2
    obtain ⟨a1, a2, a3, a4, a5, _⟩ := x1.cells
    obtain ⟨b1, b2, b3, b4, b5, _⟩ := x2.cells
    rw [a1] at b1; rw [a2] at b2; rw [a3] at b3; rw [a4] at b4; rw [a5] at b5
    injection b1 with b1; injection b1 with _ b1
    injection b2 with b2; injection b2 with b2
    injection b3 with b3; injection b3 with b3
    injection b4 with b4; injection b4 with b4
    injection b5 with b5; injection b5 with b5
    exact ⟨by omega, b2, b3, b4, b5⟩
  obtain ⟨_, _, rfl, rfl, rfl⟩ := same hp ha
  have hbd : 0 ≤ (if divB f u = true then 0 else appT f v u) ∧ (if divB f u = true then 0 else appT f v u) ≤ 4294967295 := by
    split
    · omega
    · exact app_bounds f v u h0 h1 u0 u1
  cases r with
  | none =>
    obtain ⟨j3, a, b, c, hj⟩ := hm2
    obtain ⟨rfl, rfl, rfl, rfl, rfl⟩ := same hp3 hj
    have h2 := hb none (ls_bad hq hr hn hrd)
    exact ⟨⟨hbd.1, hbd.2, h2, _, _, _, hz⟩, fun e => by cases e⟩
  | some y =>
    obtain ⟨hu, hj⟩ := hm2
    obtain ⟨rfl, rfl, rfl, rfl, rfl⟩ := same hp3 hj
    have hlt := rd_lt hrd (show q ≤ 10 by omega) rfl
    refine ⟨⟨hbd.1, hbd.2, appT f v0 (if divB f y.1 = true then 1 else y.1), orF F (orF y.2.2 (false, false, divB f y.1)), by omega, ?_, ?_, ?_⟩, fun _ => by omega⟩
    · intro hf
      have hf' : (F.2.2 || (y.2.2.2.2 || divB f y.1)) = false := hf
      rw [Bool.or_eq_false_iff, Bool.or_eq_false_iff] at hf'
      rw [hv hf'.1, hu hf'.2.1, hf'.2.2]; rfl
    · intro r hl
      have h2 := hb _ (ls_step hq hr hn hrd hl)
      rw [orQ_orQ] at h2
      exact h2
    · have h3 := hz
      have e1 : (dp || F.1 || y.2.2.1) = (dp || (orF F (orF y.2.2 (false, false, divB f y.1))).1) := by show _ = (dp || (F.1 || (y.2.2.1 || false))); rw [Bool.or_false, Bool.or_assoc]
      have e2 : (gr || F.2.1 || y.2.2.2.1) = (gr || (orF F (orF y.2.2 (false, false, divB f y.1))).2.1) := by show _ = (gr || (F.2.1 || (y.2.2.2.1 || false))); rw [Bool.or_false, Bool.or_assoc]
      have e3 : (dv || F.2.2 || y.2.2.2.2 || divB f u) = (dv || (orF F (orF y.2.2 (false, false, divB f y.1))).2.2) := by
        show _ = (dv || (F.2.2 || (y.2.2.2.2 || divB f y.1)))
        cases hyd : y.2.2.2.2 with
        | true => simp
        | false => rw [hu hyd, Bool.or_false, Bool.false_or, Bool.or_assoc]
      rw [e1, e2, e3] at h3
      exact h3
end
end Go.Proofs.YtiojnbhomjkkgaaGreatDoor

namespace Go.Proofs.YtiojnbhomjkkgaaGreatDoor
open Go.RowKit

set_option maxRecDepth 100000 in
set_option maxHeartbeats 8000000 in
theorem r2_row (p : Nat) (L : List (Int × ByteArray × Int)) (i : Nat) (hO : OC p L i) (hR : ∀ j, i < j → j ≤ L.length → RC p L j) : RC p L i := by
  intro m w d dp gr dv hm hd h
  have HO := Lib.hid (hO w d dp gr dv hd h)
  have HR := Lib.hid hR
  obtain ⟨_, _, _, _, _, _, _, _, _, _, _, hiL, hLb⟩ := h.cells
  have hdI : (d : Int) ≤ 1000000000 := by omega
  have hmI : (m : Int) ≤ 10 := by omega
  have hw0 : ∀ q : Int, 0 ≤ q → q ≤ 10 → IntKind.i64.wrap (10 - q + 1) = 11 - q := fun q h0 h1 => by rw [IntWalk.i64_in _ (by omega)]; omega
  have HW0 := Lib.hid hw0
  clear hO hR h hw0
  go_enter Tryz.func92, Tryz.ntmps92
  go_wp2_with fail
  refine (by exact HO.out : Calls _ _ _ _ _).mono ?_
  rintro e w1 hout
  obtain ⟨v, syn, j, rfl, hrr⟩ := row_start (m := m) hout
  have HRR := Lib.hid hrr
  obtain ⟨_, _, _, _, hk1⟩ := hout.val
  have HK1 := Lib.hid hk1
  clear hout hrr hk1
  go_wp2_with fail
  go_loopg [7] (L.length + 2) (fun f x wr => ∃ (v : Int) (syn : Bool) (j : Nat), x = .int .u32 v ∧ Hid (RowR p L m d i dp gr dv v syn j wr) ∧ Hid (Keeps (fun b => b = p) w wr) ∧ Hid (syn = false → L.length + 1 ≤ j + f))
  case atStart => exact ⟨v, syn, j, rfl, HRR, HK1, Lib.hid (fun _ => by omega)⟩
  case round =>
    clear HRR HK1
    obtain ⟨v, syn, j, rfl, HRR, HK, HF⟩ := hrel
    obtain ⟨v0', v1', _⟩ := HRR.out
    obtain ⟨dp', gr', dv', ha⟩ := HRR.out.prs
    obtain ⟨c1, c2, _, _, _, f1, _, _, _, _, cl, hjL, _⟩ := ha.cells
    have HA := Lib.hid ha
    clear ha
    cases syn with
    | true =>
      go_wp2_with fail
      go_ret
      exact row_fail HRR.out HK.out
    | false =>
      have hgk : 1 ≤ gk := by have h2 := HF.out rfl; omega
      have hsg := r2_sign p L j false dp' gr' dv' wr HA.out
      unfold PSignPost at hsg
      obtain ⟨t, ht⟩ : ∃ t, t = sgnT L j := ⟨_, rfl⟩
      rw [← ht] at hsg
      have HT := Lib.hid ht
      have HSG := Lib.hid hsg
      clear ht hsg
      go_wp2_with fail
      refine (by exact HSG.out : Calls _ _ _ _ _).mono ?_
      rintro e w2 ⟨rfl, hr2, hk2⟩
      go_wp2_with fail
      refine (r2_rank t _).mono ?_
      rintro e w3 ⟨R, rfl, hrk, hb3⟩
      have hk23 := hk2.trans (Keeps.of_fresh hb3 (fun _ => False)) (fun _ _ e => e)
      have hr3 := hr2.keeps (Keeps.of_fresh hb3 (fun _ => False))
      obtain ⟨d1, _, _, _, _, g1, _, _, _, _, dl, _, _⟩ := hr3.cells
      have HRR3 := Lib.hid (HRR.out.keeps hk23)
      have HK3 := Lib.hid (HK.out.trans (hk23.mono (S := fun b => b = p) (fun _ _ e => e.elim)) (fun _ _ e => e))
      have HR3 := Lib.hid hr3
      clear hr2 hk2 hb3 hk23 hr3
      rcases hrk with ⟨rfl, hno⟩ | ⟨q, f, hq, rfl, hr⟩
      · have HNO := Lib.hid hno
        clear hno
        go_wp2_with fail
        go_ret
        exact row_stop HRR3.out HK3.out (fun t ht => by rw [← HT.out]; exact HNO.out t (by omega))
      · have hk0 : ((10 - (q : Int)) == 0) = false := by rw [beq_eq_false_iff_ne]; omega
        have hqI : (q : Int) ≤ 9 := by omega
        have HRW := Lib.hid hr
        clear hr
        by_cases hqm : q < m
        · have hlt : ¬ (10 - (q : Int) < 11 - (m : Int)) := by omega
          have hlt2 : 11 - (m : Int) ≤ 10 - (q : Int) := by omega
          have hn : j + 1 ≤ L.length := by
            refine sgn_in (L := L) ?_
            intro e
            have h9 := HRW.out
            rw [HT.out, e, rows_nil q hq] at h9
            cases h9
          obtain ⟨hf1, hf2, _⟩ := rowN_facts hq HRW.out
          have HNM := Lib.hid (rowN_name hq HRW.out)
          have hwr := HW0.out q (by omega) (by omega)
          go_wp2_with fail
          have hij : i ≤ j := by obtain ⟨_, _, _, _, h, _⟩ := HRR3.out; exact h
          obtain ⟨hnx, hkx⟩ := HR3.out.next hn
          refine (by exact HR.out (j + 1) (by omega) hn q _ d dp' gr' dv' (by omega) (by omega) hnx : Calls _ _ _ _ _).mono ?_
          rintro e w5 ho
          obtain ⟨u, rfl, u0, u1, hk5⟩ := ho.val
          obtain ⟨j2, syn2, a2, b2, x2, ha2⟩ : ∃ j2 syn2 a b c, PrsAt w5 p L j2 syn2 a b c := by
            obtain ⟨r, _, _, _, _, _, _, hm⟩ := ho
            cases r with
            | none => obtain ⟨j, a, b, c, h⟩ := hm; exact ⟨j, true, a, b, c, h⟩
            | some y => exact ⟨_, _, _, _, _, hm.2⟩
          have hap := r2_apply p L j2 syn2 a2 b2 x2 f hf1 hf2 v u w5 ha2 v0' v1' u0 u1
          rw [← HNM.out] at hap
          have HAP := Lib.hid hap
          have HOO := Lib.hid ho
          have HA2 := Lib.hid ha2
          have HK5 := Lib.hid ((HK3.out.trans hkx (fun _ _ e => e)).trans hk5 (fun _ _ e => e))
          clear hap ho ha2 hk5 hnx hkx
          go_wp2_with fail
          refine (by exact HAP.out : Calls _ _ _ _ _).mono ?_
          rintro e w6 ⟨rfl, hr6, hk6⟩
          have hnor : NoR L q j := by
            intro t2 ht2
            cases hx : rowN t2 (sgnT L j) with
            | none => rfl
            | some f2 =>
              have h9 := HRW.out
              rw [HT.out] at h9
              have := rk_row_one hx h9 (by omega) hq
              omega
          have hrow : rowN q (sgnT L j) = some f := by rw [← HT.out]; exact HRW.out
          have hturn := row_turn HRR3.out hqm hm hrow hnor HOO.out HR3.out HA2.out hr6
          have HTU := Lib.hid hturn
          have HK6 := Lib.hid (HK5.out.trans hk6 (fun _ _ e => e))
          clear hturn hrow hnor hr6 hk6
          generalize (if divB f u = true then (0 : Int) else appT f v u) = z at *
          go_wp2_with fail
          go_roundg (gk - 1)
          case measure => omega
          case rel => exact ⟨z, syn2, j2, rfl, Lib.hid HTU.out.1, HK6, Lib.hid (fun e => by have h1 := HTU.out.2 e; have h2 := HF.out (by simp); omega)⟩
        · have hlt : (10 - (q : Int) < 11 - (m : Int)) := by omega
          go_wp2_with fail
          go_ret
          refine row_stop HRR3.out HK3.out ?_
          intro t2 ht2
          cases hx : rowN t2 (sgnT L j) with
          | none => rfl
          | some f2 =>
            have h9 := HRW.out
            rw [HT.out] at h9
            have := rk_row_one hx h9 (by omega) hq
            omega
end Go.Proofs.YtiojnbhomjkkgaaGreatDoor

namespace Go.Proofs.YtiojnbhomjkkgaaGreatDoor
open Go.RowKit

theorem PrOut.prs {p : Nat} {L : List (Int × ByteArray × Int)} {W : Wh} {i d : Nat} {dp gr dv : Bool} {w w' : World} {e : Ending} (h : PrOut p L W d i dp gr dv w e w') : ∃ j syn a b c, PrsAt w' p L j syn a b c := by
  obtain ⟨r, _, _, _, _, _, _, hm⟩ := h
  cases r with
  | none => obtain ⟨j, a, b, c, h⟩ := hm; exact ⟨j, true, a, b, c, h⟩
  | some y => exact ⟨_, _, _, _, _, hm.2⟩
theorem PrsAt.same {wx : World} {p : Nat} {L : List (Int × ByteArray × Int)} {j1 j2 : Nat} {s1 s2 a1 b1 c1 a2 b2 c2 : Bool} (x1 : PrsAt wx p L j1 s1 a1 b1 c1) (x2 : PrsAt wx p L j2 s2 a2 b2 c2) : j1 = j2 ∧ s1 = s2 ∧ a1 = a2 ∧ b1 = b2 ∧ c1 = c2 := by
  obtain ⟨a1, a2, a3, a4, a5, _⟩ := x1.cells
  obtain ⟨b1, b2, b3, b4, b5, _⟩ := x2.cells
  rw [a1] at b1; rw [a2] at b2; rw [a3] at b3; rw [a4] at b4; rw [a5] at b5
  injection b1 with b1; injection b1 with _ b1
  injection b2 with b2; injection b2 with b2
  injection b3 with b3; injection b3 with b3
  injection b4 with b4; injection b4 with b4
  injection b5 with b5; injection b5 with b5
  exact ⟨by omega, b2, b3, b4, b5⟩
/-- What is known behind a method: it went well or it did not. -/
theorem PrOut.split {p : Nat} {L : List (Int × ByteArray × Int)} {W : Wh} {i d : Nat} {dp gr dv : Bool} {w w' : World} {e : Ending} (h : PrOut p L W d i dp gr dv w e w') : ∃ v, e = .returned (.int .u32 v) ∧ 0 ≤ v ∧ v ≤ 4294967295 ∧ Keeps (fun x => x = p) w w' ∧
    ((Rd L W d i none ∧ ∃ j a b c, PrsAt w' p L j true a b c) ∨ ∃ q : RvT, Rd L W d i (some q) ∧ (q.2.2.2.2 = false → v = q.1) ∧ PrsAt w' p L q.2.1 false (dp || q.2.2.1) (gr || q.2.2.2.1) (dv || q.2.2.2.2)) := by
  obtain ⟨r, v, hr, e, h0, h1, k, hm⟩ := h
  refine ⟨v, e, h0, h1, k, ?_⟩
  cases r with
  | none => exact .inl ⟨hr, hm⟩
  | some q => exact .inr ⟨q, hr, hm.1, hm.2⟩
set_option maxRecDepth 100000 in
set_option maxHeartbeats 8000000 in
theorem r2_whole (p : Nat) (L : List (Int × ByteArray × Int)) (i : Nat) (hR : RC p L i) (hW : ∀ j, i < j → j ≤ L.length → WC p L j) : WC p L i := by
  intro w d dp gr dv hd h
  have hr := hR 10 w d dp gr dv (by omega) hd h
  rw [show (11 - ((10 : Nat) : Int)) = 1 from by decide] at hr
  have HR := Lib.hid hr
  have HW := Lib.hid hW
  obtain ⟨_, _, _, _, _, _, _, _, _, _, _, hiL, hLb⟩ := h.cells
  have hdI : (d : Int) ≤ 1000000000 := by omega
  clear hR hr hW h
  go_enter Tryz.func47, Tryz.ntmps47
  go_wp2_with fail
  refine (by exact HR.out : Calls _ _ _ _ _).mono ?_
  rintro e w1 ho
  obtain ⟨x, rfl, x0, x1, hk1, hc⟩ := ho.split
  have HK1 := Lib.hid hk1
  clear ho hk1
  rcases hc with ⟨hN, j, a, b, c, ha⟩ | ⟨q, hrd, hv, ha⟩
  · obtain ⟨c1, c2, _, _, _, f1, _, _, _, _, cl, hjL, _⟩ := ha.cells
    have HN := Lib.hid (rd_whole_none hN)
    have HA := Lib.hid ha
    clear hN ha
    go_wp2_with fail
    go_ret
    exact ⟨none, x, HN.out, rfl, x0, x1, HK1.out, _, _, _, _, HA.out⟩
  · have hij : i < q.2.1 := rd_lt hrd (show 10 ≤ 10 by omega) rfl
    obtain ⟨j, hj⟩ : ∃ j, j = q.2.1 := ⟨_, rfl⟩
    rw [← hj] at ha hij
    obtain ⟨c1, c2, _, _, _, f1, _, _, _, _, cl, hjL, _⟩ := ha.cells
    have hsg := r2_sign p L j false _ _ _ w1 ha
    unfold PSignPost at hsg
    have HRD := Lib.hid hrd
    have HV := Lib.hid hv
    have HJ := Lib.hid hj
    have HA := Lib.hid ha
    clear hrd hv hj ha
    by_cases hs : sgnT L j = ⟨#[63]⟩
    · have hn : j + 1 ≤ L.length := sgn_in (by rw [hs]; intro e; cases e)
      have HS := Lib.hid (show sgnT L q.2.1 = ⟨#[63]⟩ by rw [← HJ.out]; exact hs)
      rw [hs] at hsg
      have HSG := Lib.hid hsg
      clear hs hsg
      go_wp2_with fail
      refine (by exact HSG.out : Calls _ _ _ _ _).mono ?_
      rintro e w2 ⟨rfl, hr2, hk2⟩
      obtain ⟨d1, _, _, _, _, g1, _, _, _, _, dl, _, _⟩ := hr2.cells
      have HR2 := Lib.hid hr2
      have HK2 := Lib.hid (HK1.out.trans (hk2.mono (S := fun b => b = p) (fun _ _ e => e.elim)) (fun _ _ e => e))
      clear hr2 hk2
      go_wp2_with fail
      obtain ⟨hnx, hkx⟩ := HR2.out.next hn
      refine (by exact HW.out (j + 1) (by omega) hn _ d _ _ _ (by omega) hnx : Calls _ _ _ _ _).mono ?_
      rintro e w3 ho
      obtain ⟨y, rfl, y0, y1, hk3, hc⟩ := ho.split
      have HK3 := Lib.hid ((HK2.out.trans hkx (fun _ _ e => e)).trans hk3 (fun _ _ e => e))
      clear ho hk3 hnx hkx
      rcases hc with ⟨hN, j2, a2, b2, x2, ha2⟩ | ⟨r, hrd2, hv2, ha2⟩
      · obtain ⟨k1, k2, _, _, _, l1, _, _, _, _, kl, hj2L, _⟩ := ha2.cells
        have HN := Lib.hid (rd_if_none HRD.out HS.out (by rw [← HJ.out]; exact hN))
        have HA2 := Lib.hid ha2
        clear hN ha2
        go_wp2_with fail
        go_ret
        exact ⟨none, 0, HN.out, rfl, by omega, by omega, HK3.out, _, _, _, _, HA2.out⟩
      · have hij2 : j + 1 < r.2.1 := rd_lt hrd2 trivial rfl
        obtain ⟨j2, hj2⟩ : ∃ j, j = r.2.1 := ⟨_, rfl⟩
        rw [← hj2] at ha2 hij2
        obtain ⟨k1, k2, _, _, _, l1, _, _, _, _, kl, hj2L, _⟩ := ha2.cells
        have htk := r2_take p L j2 false _ _ _ ⟨#[58]⟩ w3 ha2 (by intro e; cases e)
        have HTK := Lib.hid htk
        have HRD2 := Lib.hid (show Rd L .whole d (q.2.1 + 1) (some r) by rw [← HJ.out]; exact hrd2)
        have HV2 := Lib.hid hv2
        have HJ2 := Lib.hid hj2
        have HA2 := Lib.hid ha2
        clear hrd2 hv2 hj2 ha2 htk
        by_cases hs2 : sgnT L j2 = ⟨#[58]⟩
        · have hn2 : j2 + 1 ≤ L.length := sgn_in (by rw [hs2]; intro e; cases e)
          have HS2 := Lib.hid hs2
          clear hs2
          go_wp2_with fail
          refine (by exact HTK.out : Calls _ _ _ _ _).mono ?_
          rintro e w4 ⟨rfl, hk4, t1, _⟩
          have hr4 := t1 HS2.out
          obtain ⟨m1, m2, _, _, _, n1, _, _, _, _, ml, _, _⟩ := hr4.cells
          have HR4 := Lib.hid hr4
          have HK4 := Lib.hid (HK3.out.trans hk4 (fun _ _ e => e))
          clear hr4 hk4 t1
          go_wp2_with fail
          refine (by exact HW.out (j2 + 1) (by omega) hn2 _ d _ _ _ (by omega) HR4.out : Calls _ _ _ _ _).mono ?_
          rintro e w5 ho
          obtain ⟨z, rfl, z0, z1, hk5, hc⟩ := ho.split
          have HK5 := Lib.hid (HK4.out.trans hk5 (fun _ _ e => e))
          have HC := Lib.hid hc
          clear ho hk5 hc
          have hfin : PrOut p L .whole d i dp gr dv w (.returned (.int .u32 (if x = 0 then z else y))) w5 := by
            have hb : 0 ≤ (if x = 0 then z else y) ∧ (if x = 0 then z else y) ≤ 4294967295 := by split <;> omega
            rcases HC.out with ⟨hN, hE⟩ | ⟨s, hrd3, hv3, ha3⟩
            · have h3 := rd_if HRD.out HS.out HRD2.out (by rw [← HJ2.out]; exact HS2.out) (by rw [← HJ2.out]; exact hN)
              exact ⟨none, _, h3, rfl, hb.1, hb.2, HK5.out, hE⟩
            · have h3 := rd_if HRD.out HS.out HRD2.out (by rw [← HJ2.out]; exact HS2.out) (by rw [← HJ2.out]; exact hrd3)
              refine ⟨_, _, h3, rfl, hb.1, hb.2, HK5.out, ?_, ?_⟩
              · intro hf
                have hf' : ((q.2.2.2.2 || r.2.2.2.2) || s.2.2.2.2) = false := hf
                rw [Bool.or_eq_false_iff, Bool.or_eq_false_iff] at hf'
                rw [HV.out hf'.1.1, HV2.out hf'.1.2, hv3 hf'.2]
              · have e1 : (dp || q.2.2.1 || r.2.2.1 || s.2.2.1) = (dp || ((q.2.2.1 || r.2.2.1) || s.2.2.1)) := by simp [Bool.or_assoc]
                have e2 : (gr || q.2.2.2.1 || r.2.2.2.1 || s.2.2.2.1) = (gr || ((q.2.2.2.1 || r.2.2.2.1) || s.2.2.2.1)) := by simp [Bool.or_assoc]
                have e3 : (dv || q.2.2.2.2 || r.2.2.2.2 || s.2.2.2.2) = (dv || ((q.2.2.2.2 || r.2.2.2.2) || s.2.2.2.2)) := by simp [Bool.or_assoc]
                rw [e1, e2, e3] at ha3
                exact ha3
          have HFIN := Lib.hid hfin
          clear hfin
          by_cases hx : x = 0
          · have HF2 := Lib.hid (show PrOut p L .whole d i dp gr dv w (.returned (.int .u32 z)) w5 by have := HFIN.out; rwa [if_pos hx] at this)
            subst hx
            go_wp2_with fail
            go_ret
            exact HF2.out
          · have HF2 := Lib.hid (show PrOut p L .whole d i dp gr dv w (.returned (.int .u32 y)) w5 by have := HFIN.out; rwa [if_neg hx] at this)
            have hxb : (x != 0) = true := by rw [bne_iff_ne]; exact hx
            go_wp2_with fail
            go_ret
            exact HF2.out
        · have HN := Lib.hid (rd_if_bad HRD.out HS.out HRD2.out (by rw [← HJ2.out]; exact hs2))
          have HS2 := Lib.hid hs2
          clear hs2
          go_wp2_with fail
          refine (by exact HTK.out : Calls _ _ _ _ _).mono ?_
          rintro e w4 ⟨rfl, hk4, _, t2⟩
          have hr4 := t2 HS2.out
          obtain ⟨m1, m2, _, _, _, n1, _, _, _, _, ml, _, _⟩ := hr4.cells
          have HR4 := Lib.hid hr4
          have HK4 := Lib.hid (HK3.out.trans hk4 (fun _ _ e => e))
          clear hr4 hk4 t2
          go_wp2_with fail
          go_ret
          exact ⟨none, 0, HN.out, rfl, by omega, by omega, HK4.out, _, _, _, _, HR4.out⟩
    · have n63 : ((sgnT L j).toList == [63]) = false := by rw [beq_eq_false_iff_ne]; intro e; exact hs (text_of e)
      have HS := Lib.hid (show sgnT L q.2.1 ≠ ⟨#[63]⟩ by rw [← HJ.out]; exact hs)
      obtain ⟨t, ht⟩ : ∃ t, t = sgnT L j := ⟨_, rfl⟩
      rw [← ht] at hsg n63
      have HSG := Lib.hid hsg
      clear hs ht hsg
      go_wp2_with fail
      refine (by exact HSG.out : Calls _ _ _ _ _).mono ?_
      rintro e w2 ⟨rfl, hr2, hk2⟩
      have HR2 := Lib.hid hr2
      have HK2 := Lib.hid (HK1.out.trans (hk2.mono (S := fun b => b = p) (fun _ _ e => e.elim)) (fun _ _ e => e))
      clear hr2 hk2
      go_wp2_with fail
      go_ret
      exact ⟨some q, x, rd_whole HRD.out HS.out, rfl, x0, x1, HK2.out, HV.out, by rw [← HJ.out]; exact HR2.out⟩
/-- The whole parser, by the tokens left. -/
theorem r2_all (p : Nat) (L : List (Int × ByteArray × Int)) : ∀ n i, L.length - i ≤ n → OC p L i ∧ RC p L i ∧ WC p L i := by
  intro n
  induction n with
  | zero =>
    intro i hi
    have hO := r2_operand p L i (fun h => by omega) (fun h => by omega)
    have hR := r2_row p L i hO (fun j h1 h2 => by omega)
    exact ⟨hO, hR, r2_whole p L i hR (fun j h1 h2 => by omega)⟩
  | succ n ih =>
    intro i hi
    have hO := r2_operand p L i (fun h => (ih (i + 1) (by omega)).1) (fun h => (ih (i + 1) (by omega)).2.2)
    have hR := r2_row p L i hO (fun j h1 h2 => (ih j (by omega)).2.1)
    exact ⟨hO, hR, r2_whole p L i hR (fun j h1 h2 => (ih j (by omega)).2.2)⟩
end Go.Proofs.YtiojnbhomjkkgaaGreatDoor

namespace Go.Proofs.YtiojnbhomjkkgaaGreatDoor
open Go.RowKit

set_option maxRecDepth 100000 in
set_option maxHeartbeats 4000000 in
theorem r2_done {w : World} {p : Nat} {L : List (Int × ByteArray × Int)} {j : Nat} {s a b c : Bool} (h : PrsAt w p L j s a b c) (u : Int) (h0 : 0 ≤ u) (h1 : u ≤ 4294967295) :
    Calls Tryz.prog 46 #[.pointer (some ⟨p, 0, none⟩), .int .u32 u] w fun e w' => e = .returned (.tuple #[.int .i64 (markT s a b c u j).1, .int .i64 (markT s a b c u j).2.1, .int .i64 (markT s a b c u j).2.2]) ∧ Keeps (fun _ => False) w w' := by
  obtain ⟨c1, c2, c3, c4, c5, _, _, _, _, _, cl, hjL, hLb⟩ := h.cells
  clear h
  have HL := Lib.hid (And.intro hjL hLb)
  clear hjL hLb
  cases s with
  | true =>
    go_enter Tryz.func46, Tryz.ntmps46
    go_wp2_with fail
    go_ret3
    exact ⟨rfl, Keeps.refl _ _⟩
  | false =>
    cases a with
    | true =>
      go_enter Tryz.func46, Tryz.ntmps46
      go_wp2_with fail
      go_ret3
      exact ⟨rfl, Keeps.refl _ _⟩
    | false =>
      cases b with
      | true =>
        go_enter Tryz.func46, Tryz.ntmps46
        go_wp2_with fail
        go_ret3
        exact ⟨rfl, Keeps.refl _ _⟩
      | false =>
        cases c with
        | true =>
          go_enter Tryz.func46, Tryz.ntmps46
          go_wp2_with fail
          go_ret3
          exact ⟨rfl, Keeps.refl _ _⟩
        | false =>
          go_enter Tryz.func46, Tryz.ntmps46
          go_wp2_with fail
          go_quiet (fail)
          go_wp2_with fail
          go_ret3
          exact ⟨rfl, keeps_draws _ _⟩
/-- What the marks are behind a method. -/
theorem PrOut.marks {p : Nat} {L : List (Int × ByteArray × Int)} {W : Wh} {i d : Nat} {w w' : World} {e : Ending} (h : PrOut p L W d i false false false w e w') :
    ∃ u j s a b c, e = .returned (.int .u32 u) ∧ 0 ≤ u ∧ u ≤ 4294967295 ∧ PrsAt w' p L j s a b c ∧ Keeps (fun x => x = p) w w' ∧ ∃ res, Rd L W d i res ∧ outT res = markT s a b c u j := by
  obtain ⟨r, u, hr, rfl, h0, h1, k, hm⟩ := h
  cases r with
  | none =>
    obtain ⟨j, a, b, c, ha⟩ := hm
    exact ⟨u, j, true, a, b, c, rfl, h0, h1, ha, k, none, hr, rfl⟩
  | some q =>
    obtain ⟨hv, ha⟩ := hm
    obtain ⟨v, j, a, b, c⟩ := q
    refine ⟨u, j, false, a, b, c, rfl, h0, h1, by simpa using ha, k, _, hr, ?_⟩
    cases a with
    | true => rfl
    | false =>
      cases b with
      | true => rfl
      | false =>
        cases c with
        | true => rfl
        | false =>
          have := hv rfl
          rw [this]; rfl
/-- A parser just made. -/
theorem prs_new {w : World} {L : List (Int × ByteArray × Int)} {v : Value} {i : Nat} (hv : TokAt (fun x => x < w.heap.size) w v L) (hL : L.length ≤ 1000000000) (hi : i ≤ L.length) :
    PrsAt (w.alloc (.cells #[v, .int .i64 i, .bool false, .bool false, .bool false, .bool false] 93)) w.heap.size L i false false false false := by
  refine ⟨v, Holds.new w _ _, ?_, hi, hL⟩
  obtain ⟨a, c, e1, e2, e3⟩ := hv.keeps ((Keeps.refl (fun _ => False) w).alloc (.cells #[v, .int .i64 i, .bool false, .bool false, .bool false, .bool false] 93)) (fun _ _ e => e)
  refine ⟨a, c, e1, e2, fun h0 => ?_⟩
  obtain ⟨g', o', f1, f2, f3⟩ := e3 h0
  exact ⟨g', o', f1, (by show g' ≠ w.heap.size; omega), f3⟩
theorem prim_below {w w2 w3 : World} {o : Obj} (k : Keeps (fun x => x = w.heap.size) (w.alloc o) w2) (k3 : Keeps (fun _ => False) w2 w3) : Below w.heap.size w w3 :=
  ((((Keeps.refl (fun x => x = w.heap.size) w).alloc o).trans k (fun _ _ e => e)).trans (k3.mono (S := fun x => x = w.heap.size) (fun _ _ e => e.elim)) (fun _ _ e => e)).below (Nat.le_refl _) (fun i hi e => by omega)
/-- Where no sign of an operand stands, an operand is a primary. -/
theorem prim_of {L : List (Int × ByteArray × Int)} {d i : Nat} {r : Option RvT} (hu : unB (sgnT L i) = false) (h : Rd L .opnd d i r) : Rd L .prim d i r := by
  have hp := evF_rd L .prim d i trivial
  have e := Rd.det h (rd_op hu hp)
  rw [e]; exact hp
set_option maxRecDepth 100000 in
set_option maxHeartbeats 8000000 in
theorem r2_Primary (L : List (Int × ByteArray × Int)) (v : Value) (i : Nat) (w : World) (hv : TokAt (fun x => x < w.heap.size) w v L) (hL : L.length ≤ 1000000000) (hi : i < L.length) :
    Calls Tryz.prog 20 #[v, .int .i64 i] w fun e w' => ∃ res, Rd L .prim 0 i res ∧ e = .returned (.tuple #[.int .i64 (outT res).1, .int .i64 (outT res).2.1, .int .i64 (outT res).2.2]) ∧ Below w.heap.size w w' := by
  have hiI : (i : Int) < (L.length : Int) := by omega
  have hi2 : ¬ ((L.length : Int) ≤ (i : Int)) := by omega
  have hnew := prs_new hv hL (Nat.le_of_lt hi)
  have HV := Lib.hid hv
  have hat := Lib.hid (show L[i]? = some L[i] from List.getElem?_eq_getElem hi)
  obtain ⟨a, cap, rfl, hsz, hTk⟩ := hv
  obtain ⟨gt, ot, rfl, hgt, hc⟩ := hTk (by omega)
  have hsg := r2_sign w.heap.size L i false false false false _ hnew
  have hall := fun wx hx => (r2_all w.heap.size L (L.length - i) i (Nat.le_refl _)).1 wx 0 false false false (Nat.zero_le _) hx
  unfold PSignPost at hsg
  rw [show (((0 : Nat) : Int)) = 0 from rfl] at hall
  have hsgk : L[i].1 ≠ 4 → sgnT L i = ⟨#[]⟩ := fun h => by unfold sgnT; rw [hat.out]; exact if_neg h
  obtain ⟨d0, _⟩ := hc i hi
  have HK0 := Lib.hid ((Keeps.refl (fun _ => False) w).alloc (.cells #[.slice (some ⟨gt, ot, none⟩) L.length cap, .int .i64 i, .bool false, .bool false, .bool false, .bool false] 93))
  have d0' := (HK0.out.cell (p := ⟨gt, ot + i * 6, none⟩) hgt (fun e => e)).trans d0
  clear hc hTk hsz d0
  by_cases hk : L[i].1 = 2
  · rw [hk] at d0'
    have HU := Lib.hid (show unB (sgnT L i) = false by rw [hsgk (by omega)]; decide)
    have HALL := Lib.hid (hall _ hnew)
    clear hall hnew hsg hsgk hk hat
    go_enter Tryz.func20, Tryz.ntmps20
    go_wp2_with fail
    refine (by exact HALL.out : Calls _ _ _ _ _).mono ?_
    rintro e w2 ho
    obtain ⟨u, j, s, x, y, z, rfl, u0, u1, ha, hk2, hres⟩ := ho.marks
    have HK2 := Lib.hid hk2
    have HRES := Lib.hid hres
    have HDN := Lib.hid (r2_done ha u u0 u1)
    clear ho ha hk2 hres
    go_wp2_with fail
    refine (by exact HDN.out : Calls _ _ _ _ _).mono ?_
    rintro e w3 ⟨rfl, hk3⟩
    have HK3 := Lib.hid hk3
    clear hk3
    generalize markT s x y z u j = M at *
    obtain ⟨m1, m2, m3⟩ := M
    go_wp2_with fail
    go_ret3
    obtain ⟨res, hr, e⟩ := HRES.out
    exact ⟨res, prim_of HU.out hr, by rw [e]; rfl, prim_below HK2.out HK3.out⟩
  · have hkb : (L[i].1 != 2) = true := by simpa using hk
    have hkb2 : (L[i].1 == 2) = false := by simpa using hk
    by_cases hs : sgnT L i = ⟨#[40]⟩
    · have HU := Lib.hid (show unB (sgnT L i) = false by rw [hs]; decide)
      rw [hs] at hsg
      have HSG := Lib.hid hsg
      have HALL := Lib.hid hall
      clear hall hnew hsg hsgk hk hat hs
      generalize L[i].1 = kd at *
      go_enter Tryz.func20, Tryz.ntmps20
      go_wp2_with fail
      refine (by exact HSG.out : Calls _ _ _ _ _).mono ?_
      rintro e w1 ⟨rfl, hr1, hk1⟩
      have HR1 := Lib.hid hr1
      have HK1 := Lib.hid hk1
      clear hr1 hk1
      go_wp2_with fail
      refine (by exact HALL.out _ HR1.out : Calls _ _ _ _ _).mono ?_
      rintro e w2 ho
      obtain ⟨u, j, s, x, y, z, rfl, u0, u1, ha, hk2, hres⟩ := ho.marks
      have HK2 := Lib.hid ((HK1.out.mono (S := fun b => b = w.heap.size) (fun _ _ e => e.elim)).trans hk2 (fun _ _ e => e))
      have HRES := Lib.hid hres
      have HDN := Lib.hid (r2_done ha u u0 u1)
      clear ho ha hk2 hres
      go_wp2_with fail
      refine (by exact HDN.out : Calls _ _ _ _ _).mono ?_
      rintro e w3 ⟨rfl, hk3⟩
      have HK3 := Lib.hid hk3
      clear hk3
      generalize markT s x y z u j = M at *
      obtain ⟨m1, m2, m3⟩ := M
      go_wp2_with fail
      go_ret3
      obtain ⟨res, hr, e⟩ := HRES.out
      exact ⟨res, prim_of HU.out hr, by rw [e]; rfl, prim_below HK2.out HK3.out⟩
    · have n40 : ((sgnT L i).toList == [40]) = false := by rw [beq_eq_false_iff_ne]; intro e; exact hs (text_of e)
      have HN := Lib.hid (rd_nonum (d := 0) hs (fun t e => by rw [hat.out] at e; cases e; exact hk))
      obtain ⟨t, ht⟩ : ∃ t, t = sgnT L i := ⟨_, rfl⟩
      rw [← ht] at hsg n40
      have HSG := Lib.hid hsg
      clear hall hnew hsg hsgk hk hat hs ht
      generalize L[i].1 = kd at *
      go_enter Tryz.func20, Tryz.ntmps20
      go_wp2_with fail
      refine (by exact HSG.out : Calls _ _ _ _ _).mono ?_
      rintro e w1 ⟨rfl, hr1, hk1⟩
      have HK1 := Lib.hid hk1
      clear hr1 hk1
      go_wp2_with fail
      go_ret3
      exact ⟨none, HN.out, rfl, prim_below (HK1.out.mono (S := fun b => b = w.heap.size) (fun _ _ e => e.elim)) (Keeps.refl _ _)⟩
end Go.Proofs.YtiojnbhomjkkgaaGreatDoor

namespace Go.Proofs.YtiojnbhomjkkgaaGreatDoor
open Go.RowKit

set_option maxRecDepth 100000 in
set_option maxHeartbeats 8000000 in
theorem r2_Value (L : List (Int × ByteArray × Int)) (v : Value) (i : Int) (w : World) (hv : TokAt (fun x => x < w.heap.size) w v L) (hL : L.length ≤ 1000000000) :
    Calls Tryz.prog 18 #[v, .int .i64 i] w (ValuePostX L i .whole w) := by
  by_cases hi : 0 ≤ i ∧ i < L.length
  · obtain ⟨k, rfl⟩ := Int.eq_ofNat_of_zero_le hi.1
    have hk : k < L.length := by omega
    have hi0 : ¬ ((k : Int) < 0) := by omega
    have hi2 : ¬ ((L.length : Int) ≤ (k : Int)) := by omega
    have hnew := prs_new hv hL (Nat.le_of_lt hk)
    have hall := (r2_all w.heap.size L (L.length - k) k (Nat.le_refl _)).2.2 _ 0 false false false (Nat.zero_le _) hnew
    rw [show (((0 : Nat) : Int)) = 0 from rfl] at hall
    obtain ⟨a, cap, rfl, hsz, hTk⟩ := hv
    have HALL := Lib.hid hall
    have HI := Lib.hid hi
    clear hall hnew hTk hsz hi
    go_enter Tryz.func18, Tryz.ntmps18
    go_wp2_with fail
    refine (by exact HALL.out : Calls _ _ _ _ _).mono ?_
    rintro e w2 ho
    obtain ⟨u, j, s, x, y, z, rfl, u0, u1, ha, hk2, hres⟩ := ho.marks
    have HK2 := Lib.hid hk2
    have HRES := Lib.hid hres
    have HDN := Lib.hid (r2_done ha u u0 u1)
    clear ho ha hk2 hres
    go_wp2_with fail
    refine (by exact HDN.out : Calls _ _ _ _ _).mono ?_
    rintro e w3 ⟨rfl, hk3⟩
    have HK3 := Lib.hid hk3
    clear hk3
    generalize markT s x y z u j = M at *
    obtain ⟨m1, m2, m3⟩ := M
    go_wp2_with fail
    go_ret3
    obtain ⟨res, hr, e⟩ := HRES.out
    exact ⟨(m1, m2, m3), rfl, prim_below HK2.out HK3.out, by rw [if_pos HI.out]; exact ⟨res, hr, e.symm⟩⟩
  · obtain ⟨a, cap, rfl, _⟩ := hv
    have HI := Lib.hid hi
    by_cases h0 : i < 0
    · clear hi
      go_enter Tryz.func18, Tryz.ntmps18
      go_wp2_with fail
      go_ret3
      exact ⟨(0, 0, 2), rfl, Below.refl _ _, by rw [if_neg HI.out]⟩
    · have h1 : (L.length : Int) ≤ i := by omega
      clear hi
      go_enter Tryz.func18, Tryz.ntmps18
      go_wp2_with fail
      go_ret3
      exact ⟨(0, 0, 2), rfl, Below.refl _ _, by rw [if_neg HI.out]⟩
/-- Primary, at any place. -/
theorem r2_PrimaryX (L : List (Int × ByteArray × Int)) (v : Value) (i : Int) (w : World) (hv : TokAt (fun x => x < w.heap.size) w v L) (hL : L.length ≤ 1000000000) :
    Calls Tryz.prog 20 #[v, .int .i64 i] w (ValuePostX L i .prim w) := by
  by_cases hi : 0 ≤ i ∧ i < L.length
  · obtain ⟨k, rfl⟩ := Int.eq_ofNat_of_zero_le hi.1
    refine (r2_Primary L v k w hv hL (by omega)).mono ?_
    rintro e w' ⟨res, hr, he, hb⟩
    exact ⟨outT res, he, hb, by rw [if_pos hi]; exact ⟨res, hr, rfl⟩⟩
  · obtain ⟨a, cap, rfl, _⟩ := hv
    have HI := Lib.hid hi
    by_cases h0 : i < 0
    · clear hi
      go_enter Tryz.func20, Tryz.ntmps20
      go_wp2_with fail
      go_ret3
      exact ⟨(0, 0, 2), rfl, Below.refl _ _, by rw [if_neg HI.out]⟩
    · have h1 : (L.length : Int) ≤ i := by omega
      clear hi
      go_enter Tryz.func20, Tryz.ntmps20
      go_wp2_with fail
      go_ret3
      exact ⟨(0, 0, 2), rfl, Below.refl _ _, by rw [if_neg HI.out]⟩
end Go.Proofs.YtiojnbhomjkkgaaGreatDoor
