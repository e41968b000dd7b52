/- The reader of package expression: what a row of the table answers; what happens once the form is wrong. | The reader of package expression, once the form is wrong: level, whole. | The reader of package expression: operand. | The reader of package expression: the signs' functions by their numbers. | The reader of package expression: level. | Expressions in plain Lean: climbing by ranks is the same as reading level by level. | The reader of package expression: whole. | The reader of package expression: all its methods, by the tokens that are left. | Package expression: read. | Package expression: read. | Package expression: Value. | Package expression: Primary (printed by gprim.py). -/
import Derived.Test.YtiojnbhomjkkgaaGreatDoorZ2
import Derived.Deep.LoopGhost
import Derived.Laws.AppendOwn
import Derived.Laws.OwnMore
import Derived.BigRegion

set_option linter.unusedVariables false
set_option linter.unusedSimpArgs false
set_option linter.unusedSectionVars false

namespace Go.Proofs.YtiojnbhomjkkgaaGreatDoor
open Go.RowKit

theorem fns_row (k : Nat) (z : Value) (s : ByteArray) : fnsT (fnRow (rowsX.getD k [])) z s = match rowN k s with
    | none => (z, false)
    | some f => (fnT f, true) := by
  unfold fnsT rowN fnRow
  rw [List.find?_map]
  have : ((fun p : ByteArray × Value => decide (p.1 = s)) ∘ fun p : ByteArray × Nat => (p.1, fnT p.2)) = fun p : ByteArray × Nat => decide (p.1 = s) := rfl
  rw [this]
  cases (rowsX.getD k []).find? (fun p => decide (p.1 = s)) with
  | none => rfl
  | some p => rfl
theorem rows_nodup : ∀ k, k < 10 → ((fnRow (rowsX.getD k [])).map (·.1)).Nodup := by
  intro k hk
  have : (fnRow (rowsX.getD k [])).map (·.1) = (rowsX.getD k []).map (·.1) := by unfold fnRow; rw [List.map_map]; rfl
  rw [this]
  revert k
  decide
theorem rows_nil : ∀ k, k < 10 → rowN k ⟨#[]⟩ = none := by decide
section
variable {w : World} {r : Nat} {L : List (Int × ByteArray × Int)} {i d : Nat} {syn dp gr dv : Bool}
/-- The table's cells and what a row of it answers. -/
theorem RdrAt.look (h : RdrAt w r L i d syn dp gr dv) (k : Nat) (hk : k < 10) (s : ByteArray) (hs : s.size ≤ maxLen) :
    ∃ g m z, w.cell? ⟨r, 1, none⟩ = some (.slice (some ⟨g, 0, none⟩) 10 10) ∧ w.cell? ⟨g, k, none⟩ = some (.map (some m)) ∧
      (Instr.lookup 183 (.map (some m)) (.string s) true).run Tryz.prog w = .ok (.tuple #[(match rowN k s with | none => z | some f => fnT f), .bool (rowN k s).isSome]) w := by
  obtain ⟨lv, g, bs, h1, _, ⟨t1, t2, t3⟩, _⟩ := h
  have hkb : k < bs.length := by omega
  obtain ⟨z, hz⟩ := (t3 k hkb).look (rows_nodup k hk) s hs
  rw [fns_row] at hz
  refine ⟨g, bs[k], z, h1.cell 1, ?_, ?_⟩
  · rw [t1.cell k]; simp [hkb]
  · rw [hz]
    cases rowN k s <;> rfl
theorem sgn_size (h : RdrAt w r L i d syn dp gr dv) (j : Nat) : (sgnT L j).size ≤ maxLen := by
  obtain ⟨lv, g, bs, _, ⟨a, c, _, hsz, _⟩, _⟩ := h
  unfold sgnT
  cases e : L[j]? with
  | none => exact Nat.zero_le _
  | some t =>
    show ByteArray.size (if _ then _ else _) ≤ _
    split
    · exact hsz t (List.mem_of_getElem? e)
    · exact Nat.zero_le _
end
set_option maxRecDepth 100000 in
set_option maxHeartbeats 4000000 in
theorem syn_primary (r : Nat) (L : List (Int × ByteArray × Int)) (d i : Nat) (dp gr dv : Bool) (w : World) (h : RdrAt w r L i d true dp gr dv) :
    Calls Tryz.prog 48 #[.pointer (some ⟨r, 0, none⟩)] w (SynOut r L d w) := by
  have hsg := exp_sign r L i d true dp gr dv w h
  unfold SignPost at hsg
  rw [if_pos rfl] at hsg
  go_enter Tryz.func48, Tryz.ntmps48
  go_wp2_with fail
  refine hsg.mono ?_
  rintro e w1 ⟨rfl, hr1, hk1⟩
  obtain ⟨c2, c3, c4, c5, c6, _, f2, f3, f4, f5, f6, _, rl, hb1, hb2, hb3⟩ := hr1.cells
  have HR1 := Lib.hid hr1
  clear hr1
  go_wp2_with fail
  go_quiet (fail)
  go_wp2_with fail
  go_ret
  obtain ⟨q1, m1⟩ := (HR1.out.keeps (keeps_draws _ _)).put 4 (.bool true) (i' := i) (d' := d) (syn' := true) (dp' := dp) (gr' := gr) (dv' := dv) hb1 hb3 (fun _ _ => rfl)
  exact ⟨0, i, dp, gr, dv, rfl, by omega, by omega, q1, ((keeps_r hk1).trans (keeps_r (keeps_draws _ _)) (fun _ _ e => e)).trans m1 (fun _ _ e => e)⟩
set_option maxRecDepth 100000 in
set_option maxHeartbeats 4000000 in
theorem syn_operand (r : Nat) (L : List (Int × ByteArray × Int)) (d i : Nat) (dp gr dv : Bool) (w : World) (h : RdrAt w r L i d true dp gr dv) :
    Calls Tryz.prog 170 #[.pointer (some ⟨r, 0, none⟩)] w (SynOut r L d w) := by
  have hsg := exp_sign r L i d true dp gr dv w h
  unfold SignPost at hsg
  rw [if_pos rfl] at hsg
  go_enter Tryz.func170, Tryz.ntmps170
  go_wp2_with fail
  refine hsg.mono ?_
  rintro e w1 ⟨rfl, hr1, hk1⟩
  have HR1 := Lib.hid hr1
  clear hr1
  go_wp2_with fail
  go_loopg [3, 4] 0 (fun f x y wr => x = .slice none 0 0 ∧ y = .string ⟨#[]⟩ ∧ w1 = wr)
  case atStart => exact ⟨rfl, rfl, rfl⟩
  case round =>
    obtain ⟨rfl, rfl, rfl⟩ := hrel
    go_wp2_with fail
    refine (syn_primary r L d i dp gr dv w1 HR1.out).mono ?_
    rintro e w2 ⟨v, j, p, g, q, rfl, hv0, hv1, hr2, hk2⟩
    go_wp2_with fail
    go_loopg [5, 6] 0 (fun f x y wr => x = .int .u32 v ∧ y = .int .i64 (-1) ∧ w2 = wr)
    case atStart => exact ⟨rfl, rfl, rfl⟩
    case round =>
      obtain ⟨rfl, rfl, rfl⟩ := hrel
      go_wp2_with fail
      go_ret
      exact ⟨v, j, p, g, q, rfl, hv0, hv1, hr2, (keeps_r hk1).trans hk2 (fun _ _ e => e)⟩
end Go.Proofs.YtiojnbhomjkkgaaGreatDoor

namespace Go.Proofs.YtiojnbhomjkkgaaGreatDoor
open Go.RowKit

set_option maxRecDepth 100000 in
set_option maxHeartbeats 4000000 in
theorem syn_level0 (r : Nat) (L : List (Int × ByteArray × Int)) (d i : Nat) (dp gr dv : Bool) (w : World) (h : RdrAt w r L i d true dp gr dv) :
    Calls Tryz.prog 89 #[.pointer (some ⟨r, 0, none⟩), .int .i64 (-1)] w (SynOut r L d w) := by
  have ho := syn_operand r L d i dp gr dv w h
  unfold SynOut at ho
  go_enter Tryz.func89, Tryz.ntmps89
  go_wp2_with fail
  refine ho.mono ?_
  rintro e w2 ⟨v, j, p, g, q, rfl, hv0, hv1, hr2, hk2⟩
  go_wp2_with fail
  go_ret
  exact ⟨v, j, p, g, q, rfl, hv0, hv1, hr2, hk2⟩
set_option maxRecDepth 100000 in
set_option maxHeartbeats 4000000 in
theorem syn_level (r : Nat) (L : List (Int × ByteArray × Int)) (d : Nat) : ∀ (k : Nat), k ≤ 10 → ∀ (i : Nat) (dp gr dv : Bool) (w : World), RdrAt w r L i d true dp gr dv →
    Calls Tryz.prog 89 #[.pointer (some ⟨r, 0, none⟩), .int .i64 ((k : Int) - 1)] w (SynOut r L d w) := by
  intro k
  induction k with
  | zero => intro _ i dp gr dv w h; exact syn_level0 r L d i dp gr dv w h
  | succ k ih =>
    intro hk i dp gr dv w h
    have ho := ih (by omega) i dp gr dv w h
    unfold SynOut at ho
    rw [show (((k + 1 : Nat) : Int) - 1) = (k : Int) from by omega]
    have hk1 : ¬ ((k : Int) < 0) := by omega
    have hk2 : IntKind.i64.wrap ((k : Int) - 1) = (k : Int) - 1 := IntWalk.i64_in _ (by omega)
    have HK := Lib.hid hk
    clear ih hk
    go_enter Tryz.func89, Tryz.ntmps89
    go_wp2_with fail
    refine ho.mono ?_
    rintro e w1 ⟨v, j, p, g, q, rfl, hv0, hv1, hr1, hkp1⟩
    go_wp2_with fail
    go_loopg [5] 0 (fun f x wr => x = .int .u32 v ∧ w1 = wr)
    case atStart => exact ⟨rfl, rfl⟩
    case round =>
      obtain ⟨rfl, rfl⟩ := hrel
      have hsg := exp_sign r L j d true p g q w1 hr1
      unfold SignPost at hsg
      rw [if_pos rfl] at hsg
      go_wp2_with fail
      refine hsg.mono ?_
      rintro e w2 ⟨rfl, hr2, hkp2⟩
      obtain ⟨gt, m, z, c1, cm, hl⟩ := hr2.look k (by have := HK.out; omega) ⟨#[]⟩ (Nat.zero_le _)
      rw [rows_nil k (by have := HK.out; omega)] at hl
      simp only [Option.isSome_none] at hl
      have hk0 : (0 : Int) ≤ (k : Int) := by omega
      have hk9 : (k : Int) < 10 := by have := HK.out; omega
      have hkn : ((k : Int)).toNat = k := by omega
      have HR2 := Lib.hid hr2
      have rl := hr2.cells.2.2.2.2.2.2.2.2.2.2.2.2.1
      clear hr2
      go_wp2_with fail
      go_ret
      exact ⟨v, j, p, g, q, rfl, hv0, hv1, HR2.out, hkp1.trans (keeps_r hkp2) (fun _ _ e => e)⟩
theorem syn_level9 (r : Nat) (L : List (Int × ByteArray × Int)) (d i : Nat) (dp gr dv : Bool) (w : World) (h : RdrAt w r L i d true dp gr dv) :
    Calls Tryz.prog 89 #[.pointer (some ⟨r, 0, none⟩), .int .i64 9] w (SynOut r L d w) := syn_level r L d 10 (Nat.le_refl _) i dp gr dv w h
set_option maxRecDepth 100000 in
set_option maxHeartbeats 4000000 in
theorem syn_whole (r : Nat) (L : List (Int × ByteArray × Int)) (d i : Nat) (dp gr dv : Bool) (w : World) (h : RdrAt w r L i d true dp gr dv) :
    Calls Tryz.prog 45 #[.pointer (some ⟨r, 0, none⟩)] w (SynOut r L d w) := by
  have ho := syn_level9 r L d i dp gr dv w h
  unfold SynOut at ho
  obtain ⟨gt, m, z, c1, cm, hl⟩ := h.look 0 (by omega) ⟨#[]⟩ (Nat.zero_le _)
  have rl := h.cells.2.2.2.2.2.2.2.2.2.2.2.2.1
  clear h cm hl
  go_enter Tryz.func45, Tryz.ntmps45
  go_wp2_with fail
  refine ho.mono ?_
  rintro e w1 ⟨v, j, p, g, q, rfl, hv0, hv1, hr1, hkp1⟩
  have hsg := exp_sign r L j d true p g q w1 hr1
  unfold SignPost at hsg
  rw [if_pos rfl] at hsg
  go_wp2_with fail
  refine hsg.mono ?_
  rintro e w2 ⟨rfl, hr2, hkp2⟩
  go_wp2_with fail
  go_ret
  exact ⟨v, j, p, g, q, rfl, hv0, hv1, hr2, hkp1.trans (keeps_r hkp2) (fun _ _ e => e)⟩
end Go.Proofs.YtiojnbhomjkkgaaGreatDoor

namespace Go.Proofs.YtiojnbhomjkkgaaGreatDoor
open Go.RowKit

theorem infoStr : (Tryz.prog.info? 9).map (fun i => (i.zero, i.size, i.bytes)) = some (some (.string ⟨#[]⟩), 1, 16) := by kernel_rfl
theorem xor_all (u : Int) (h0 : 0 ≤ u) (h1 : u ≤ 4294967295) : bits .xor .u32 IntKind.u32.max u = 4294967295 - u := by
  show IntKind.u32.wrap ((((BitVec.ofInt 32 (4294967295 : Int)) ^^^ (BitVec.ofInt 32 u)).toNat : Nat) : Int) = _
  rw [show BitVec.ofInt 32 (4294967295 : Int) = BitVec.allOnes 32 from by decide, BitVec.allOnes_xor, BitVec.toNat_not, BitVec.toNat_ofInt]
  have e : (u % ((2 ^ 32 : Nat) : Int)).toNat = u.toNat := by rw [Int.emod_eq_of_lt h0 (by omega)]
  rw [e]
  have : IntKind.u32.wrap ((2 ^ 32 - 1 - u.toNat : Nat) : Int) = ((2 ^ 32 - 1 - u.toNat : Nat) : Int) % 4294967296 := rfl
  rw [this]; omega
theorem str_slice {w : World} {base : Nat} {e : TypeId} {size : Nat} {v : Value} {n : Nat} {xs : List Value} (h : w.ownsRow base e size v n xs) : ∃ a c, v = .slice a n c := by
  rcases h.2 with ⟨e, h0⟩ | ⟨g, cap, cur, e, _⟩
  · subst h0; exact ⟨none, 0, e⟩
  · exact ⟨_, _, e⟩
/-- Signs in front of a value. -/
def opsT (S : List ByteArray) (v : Int) : Int := S.foldr unT v
theorem un_cases {s : ByteArray} (h : unB s = true) : s = ⟨#[45]⟩ ∨ s = ⟨#[126]⟩ ∨ s = ⟨#[33]⟩ := by
  unfold unB at h
  simp only [Bool.or_eq_true, decide_eq_true_eq] at h
  rcases h with (h | h) | h
  · exact .inl h
  · exact .inr (.inl h)
  · exact .inr (.inr h)
theorem un_not {s : ByteArray} (h : ¬ unB s = true) : (s.toList == [45]) = false ∧ (s.toList == [126]) = false ∧ (s.toList == [33]) = false := by
  refine ⟨?_, ?_, ?_⟩
  all_goals
    rw [beq_eq_false_iff_ne]; intro e; apply h; rw [text_of e]; decide
theorem un_bounds (s : ByteArray) (v : Int) (h0 : 0 ≤ v) (h1 : v ≤ 4294967295) : 0 ≤ unT s v ∧ unT s v ≤ 4294967295 := by
  unfold unT
  split
  · omega
  · split
    · omega
    · unfold bitT; split <;> omega
theorem ops_bounds (S : List ByteArray) (v : Int) (h0 : 0 ≤ v) (h1 : v ≤ 4294967295) : 0 ≤ opsT S v ∧ opsT S v ≤ 4294967295 := by
  induction S with
  | nil => exact ⟨h0, h1⟩
  | cons s t ih => exact un_bounds s _ ih.1 ih.2
theorem ops_drop (S : List ByteArray) (v : Int) (m : Nat) (h : m < S.length) : opsT (S.drop m) v = unT S[m] (opsT (S.drop (m + 1)) v) := by
  rw [List.drop_eq_getElem_cons h]; rfl
theorem ops_snoc (S : List ByteArray) (s : ByteArray) (v : Int) : opsT (S ++ [s]) v = opsT S (unT s v) := by
  unfold opsT; rw [List.foldr_append]; rfl
theorem RdrAt.of {w w' : World} {r : Nat} {L : List (Int × ByteArray × Int)} {lv : Value} {g : Nat} {bs : List Nat} {i d : Nat} {syn dp gr dv : Bool} (h1 : TokAt (fun x => x ≠ r) w lv L) (h2 : TableAt w g bs) (h3 : g ≠ r) (h4 : ∀ b ∈ bs, b ≠ r)
    (hL : L.length ≤ 1000000000) (k : Keeps (fun b => b = r) w w') (hH : Holds w' r #[lv, .slice (some ⟨g, 0, none⟩) 10 10, .int .i64 i, .int .i64 d, .bool syn, .bool dp, .bool gr, .bool dv] 132) (hi : i ≤ L.length) (hd : d ≤ i) : RdrAt w' r L i d syn dp gr dv :=
  ⟨lv, g, bs, hH, h1.keeps k (fun _ hg e => hg e), h2.keeps k h3 h4, h3, h4, hi, hL, hd⟩
theorem rd_opnd {L : List (Int × ByteArray × Int)} {d i : Nat} {r : Option (Int × Nat × Bool × Bool × Bool)} (hs : ¬ unB (sgnT L i) = true) (h : Rd L .prim d i r) : Rd L .opnd d i r := rd_op (by simpa using hs) h
theorem RdOut.val {r : Nat} {L : List (Int × ByteArray × Int)} {W : Wh} {d i : Nat} {dp gr dv : Bool} {w w' : World} {e : Ending} (h : RdOut r L W d i dp gr dv w e w') : ∃ v : Int, e = .returned (.int .u32 v) ∧ 0 ≤ v ∧ v ≤ 4294967295 ∧ Keeps (fun b => b = r) w w' := by
  rcases h with ⟨v, j, p, g, q, _, e, h0, h1, _, _, _, k⟩ | ⟨_, v, j, p, g, q, e, h0, h1, _, k⟩
  · exact ⟨v, e, h0, h1, k⟩
  · exact ⟨v, e, h0, h1, k⟩
/-- The outcome behind signs. -/
theorem RdOut.ops {r : Nat} {L : List (Int × ByteArray × Int)} {d i j : Nat} {dp gr dv : Bool} {w w1 w2 w' : World} {v : Int} {S : List ByteArray} (h : RdOut r L .prim d j dp gr dv w1 (.returned (.int .u32 v)) w2)
    (hb : ∀ res, Rd L .prim d j res → Rd L .opnd d i (res.map fun q => (opsT S q.1, q.2))) (hij : i ≤ j) (k : Keeps (fun b => b = r) w w1) (k2 : Keeps (fun _ => False) w2 w') : RdOut r L .opnd d i dp gr dv w (.returned (.int .u32 (opsT S v))) w' := by
  rcases h with ⟨u, m, p, g, q, hr, e, h0, h1, hj, hm, ha, kk⟩ | ⟨hr, u, m, p, g, q, e, h0, h1, ha, kk⟩
  · obtain rfl : v = u := by injection e with e; injection e
    exact .inl ⟨_, m, p, g, q, hb _ hr, rfl, (ops_bounds S v h0 h1).1, (ops_bounds S v h0 h1).2, by omega, hm, ha.keeps k2, (k.trans kk (fun _ _ e => e)).trans (keeps_r k2) (fun _ _ e => e)⟩
  · obtain rfl : v = u := by injection e with e; injection e
    exact .inr ⟨hb _ hr, _, m, p, g, q, rfl, (ops_bounds S v h0 h1).1, (ops_bounds S v h0 h1).2, ha.keeps k2, (k.trans kk (fun _ _ e => e)).trans (keeps_r k2) (fun _ _ e => e)⟩

set_option maxRecDepth 100000 in
set_option maxHeartbeats 4000000 in
theorem exp_operand (r : Nat) (L : List (Int × ByteArray × Int)) (d i0 : Nat) (dp gr dv : Bool) (w : World) (h : RdrAt w r L i0 d false dp gr dv)
    (hP : ∀ j, i0 ≤ j → ∀ w, RdrAt w r L j d false dp gr dv → Calls Tryz.prog 48 #[.pointer (some ⟨r, 0, none⟩)] w (RdOut r L .prim d j dp gr dv w)) :
    Calls Tryz.prog 170 #[.pointer (some ⟨r, 0, none⟩)] w (RdOut r L .opnd d i0 dp gr dv w) := by
  have hsg := exp_sign r L i0 d false dp gr dv w h
  unfold SignPost at hsg
  simp only [Bool.false_eq_true, if_false] at hsg
  have HP := Lib.hid hP; clear hP
  obtain ⟨lv, g, bs, hH, t1, t2, t3, t4, t5, t6, t7⟩ := h
  have hMK : ∀ (w' : World) (i : Nat), Keeps (fun b => b = r) w w' → Holds w' r #[lv, .slice (some ⟨g, 0, none⟩) 10 10, .int .i64 i, .int .i64 d, .bool false, .bool dp, .bool gr, .bool dv] 132 → i ≤ L.length → d ≤ i → RdrAt w' r L i d false dp gr dv := fun w' i k hh hi hd => RdrAt.of t1 t2 t3 t4 t6 k hh hi hd
  have HMK := Lib.hid hMK
  have hrw := hH.lt
  clear t1 t2 t3 t4 hMK
  go_enter Tryz.func170, Tryz.ntmps170
  go_wp2_with fail
  refine hsg.mono ?_
  rintro e w1 ⟨rfl, _, hk1⟩
  have hH1 := hH.keeps hk1 (fun e => e)
  go_wp2_with fail
  go_loopg [3, 4] (L.length - i0) (fun f x y wr => ∃ (S : List ByteArray) (i : Nat), y = .string (sgnT L i) ∧ wr.ownsRow w.heap.size 9 1 x S.length (S.map .string) ∧ Hid (∀ s ∈ S, unB s = true) ∧
    Hid (∀ res, Rd L .opnd d i res → Rd L .opnd d i0 (res.map fun q => (opsT S q.1, q.2))) ∧ Holds wr r #[lv, .slice (some ⟨g, 0, none⟩) 10 10, .int .i64 i, .int .i64 d, .bool false, .bool dp, .bool gr, .bool dv] 132 ∧ Keeps (fun b => b = r) w wr ∧ Hid (S.length + i0 = i) ∧ i ≤ L.length ∧ L.length ≤ i + f)
  case atStart => exact ⟨[], i0, rfl, World.ownsRow_nil _ _ _ _, Lib.hid (by simp), Lib.hid (fun res hr => by cases res <;> exact hr), hH1, keeps_r hk1, Lib.hid (by simp), by omega, by omega⟩
  case round =>
    obtain ⟨S, i, rfl, hown, hU, hB, hHr, hkr, hSi, hi1, hi2⟩ := hrel
    have hbs := hkr.size
    by_cases hu : unB (sgnT L i) = true
    · have hin : i + 1 ≤ L.length := sgn_in (by intro e; rw [e] at hu; exact absurd hu (by decide))
      have hB2 : ∀ res, Rd L .opnd d (i + 1) res → Rd L .opnd d i0 (res.map fun q => (opsT (S ++ [sgnT L i]) q.1, q.2)) := by
        intro res hr
        have := hB.out _ (rd_un hu hr)
        cases res with
        | none => exact this
        | some q => rw [Option.map_some, ops_snoc]; exact this
      have hU2 : ∀ s ∈ S ++ [sgnT L i], unB s = true := by
        intro s hs
        rcases List.mem_append.1 hs with hs | hs
        · exact hU.out s hs
        · simp only [List.mem_singleton] at hs; rw [hs]; exact hu
      have HB2 := Lib.hid hB2
      have HU2 := Lib.hid hU2
      clear hB2 hU2 hB hU
      have hSl := hSi.out
      have hsl : S.length ≤ 1000000000 := by omega
      have hdi : d ≤ i := by omega
      clear hSl
      have c2 := hHr.cell 2
      have f2 := hHr.free 2
      obtain ⟨y0, hi, hz0, hz1, hz2⟩ := info_parts infoStr
      obtain ⟨ao, co, rfl⟩ : ∃ a c, u3 = .slice a S.length c := str_slice hown
      rcases un_cases hu with hs | hs | hs
      · rw [hs] at HB2 HU2
        have HS := Lib.hid hs
        rw [hs]
        clear hs hu
        go_wp2_with (at_builtin; refine wpList_append_own _ rfl _ _ 33 rfl w.heap.size 9 y0 (.string ⟨#[]⟩) 1 16 Tryz.underlying33 hi hz0 hz1 hz2 rfl (by decide) _ _ _ rfl (by exact World.ownsRow.alloc hown _) ⟨wr.heap.size, 0, none⟩ 1 1 [.string ⟨#[45]⟩] rfl rfl ?a1 ?a2 ?a3 ?a4 ?a5 ?_)
        case a1 => exact new_cells _ _ _ _ rfl _ rfl
        case a2 => intro u hu; simp at hu; rcases hu with rfl; rfl
        case a3 => unfold maxLen; omega
        case a4 => omega
        case a5 => simp; omega
        intro v' w3 hown' hgrow _
        have hk3 : Keeps (fun b => b = r) w w3 := (hkr.alloc _).grown hgrow (fun g hg => .inl (hown.lt g hg).1)
        have hkk : Keeps (fun b => w.heap.size ≤ b) wr w3 := ((Keeps.refl _ wr).alloc _).grown hgrow (fun g hg => .inr (hown.lt g hg).1)
        have hH3 := hHr.keeps hkk (by omega)
        have c3 := hH3.cell 2
        have f3 := hH3.free 2
        have l3 := hH3.lt
        have hH4 := hH3.set 2 (.int .i64 ((i : Int) + 1))
        have hk4 := hk3.setCell (p := ⟨r, 2, none⟩) (.inr rfl) (.int .i64 ((i : Int) + 1))
        have hsg2 := exp_sign r L (i + 1) d false dp gr dv _ (HMK.out _ (i + 1) hk4 (by rw [show (((i + 1 : Nat)) : Int) = (i : Int) + 1 from by omega]; exact hH4) hin (by omega))
        unfold SignPost at hsg2
        simp only [Bool.false_eq_true, if_false] at hsg2
        have hown4 := ownsRow_setCell_below hown' (a := ⟨r, 2, none⟩) hrw (.int .i64 ((i : Int) + 1))
        have HOWN := Lib.hid hown4
        have HH4 := Lib.hid hH4
        have HK4 := Lib.hid hk4
        clear hgrow hown' hown4 hH4 hk4 hH3 hkk hk3
        go_wp2_with fail
        refine hsg2.mono ?_
        rintro e w5 ⟨rfl, _, hk5⟩
        go_wp2_with fail
        go_roundg (gk - 1)
        case measure => omega
        case rel =>
          refine ⟨S ++ [⟨#[45]⟩], i + 1, rfl, ?_, HU2, HB2, ?_, HK4.out.trans (keeps_r hk5) (fun _ _ e => e), Lib.hid ?_, hin, by omega⟩
          · have := ownsRow_keeps HOWN.out hk5 (fun _ _ e => e)
            rw [List.length_append, List.map_append]; exact this
          · rw [show (((i + 1 : Nat)) : Int) = (i : Int) + 1 from by omega]; exact HH4.out.keeps hk5 (fun e => e)
          · show _ = _
            rw [List.length_append, ← hSi.out]; simp; omega
      · rw [hs] at HB2 HU2
        have HS := Lib.hid hs
        rw [hs]
        clear hs hu
        go_wp2_with (at_builtin; refine wpList_append_own _ rfl _ _ 33 rfl w.heap.size 9 y0 (.string ⟨#[]⟩) 1 16 Tryz.underlying33 hi hz0 hz1 hz2 rfl (by decide) _ _ _ rfl (by exact World.ownsRow.alloc hown _) ⟨wr.heap.size, 0, none⟩ 1 1 [.string ⟨#[126]⟩] rfl rfl ?b1 ?b2 ?b3 ?b4 ?b5 ?_)
        case b1 => exact new_cells _ _ _ _ rfl _ rfl
        case b2 => intro u hu; simp at hu; rcases hu with rfl; rfl
        case b3 => unfold maxLen; omega
        case b4 => omega
        case b5 => simp; omega
        intro v' w3 hown' hgrow _
        have hk3 : Keeps (fun b => b = r) w w3 := (hkr.alloc _).grown hgrow (fun g hg => .inl (hown.lt g hg).1)
        have hkk : Keeps (fun b => w.heap.size ≤ b) wr w3 := ((Keeps.refl _ wr).alloc _).grown hgrow (fun g hg => .inr (hown.lt g hg).1)
        have hH3 := hHr.keeps hkk (by omega)
        have c3 := hH3.cell 2
        have f3 := hH3.free 2
        have l3 := hH3.lt
        have hH4 := hH3.set 2 (.int .i64 ((i : Int) + 1))
        have hk4 := hk3.setCell (p := ⟨r, 2, none⟩) (.inr rfl) (.int .i64 ((i : Int) + 1))
        have hsg2 := exp_sign r L (i + 1) d false dp gr dv _ (HMK.out _ (i + 1) hk4 (by rw [show (((i + 1 : Nat)) : Int) = (i : Int) + 1 from by omega]; exact hH4) hin (by omega))
        unfold SignPost at hsg2
        simp only [Bool.false_eq_true, if_false] at hsg2
        have hown4 := ownsRow_setCell_below hown' (a := ⟨r, 2, none⟩) hrw (.int .i64 ((i : Int) + 1))
        have HOWN := Lib.hid hown4
        have HH4 := Lib.hid hH4
        have HK4 := Lib.hid hk4
        clear hgrow hown' hown4 hH4 hk4 hH3 hkk hk3
        go_wp2_with fail
        refine hsg2.mono ?_
        rintro e w5 ⟨rfl, _, hk5⟩
        go_wp2_with fail
        go_roundg (gk - 1)
        case measure => omega
        case rel =>
          refine ⟨S ++ [⟨#[126]⟩], i + 1, rfl, ?_, HU2, HB2, ?_, HK4.out.trans (keeps_r hk5) (fun _ _ e => e), Lib.hid ?_, hin, by omega⟩
          · have := ownsRow_keeps HOWN.out hk5 (fun _ _ e => e)
            rw [List.length_append, List.map_append]; exact this
          · rw [show (((i + 1 : Nat)) : Int) = (i : Int) + 1 from by omega]; exact HH4.out.keeps hk5 (fun e => e)
          · show _ = _
            rw [List.length_append, ← hSi.out]; simp; omega
      · rw [hs] at HB2 HU2
        have HS := Lib.hid hs
        rw [hs]
        clear hs hu
        go_wp2_with (at_builtin; refine wpList_append_own _ rfl _ _ 33 rfl w.heap.size 9 y0 (.string ⟨#[]⟩) 1 16 Tryz.underlying33 hi hz0 hz1 hz2 rfl (by decide) _ _ _ rfl (by exact World.ownsRow.alloc hown _) ⟨wr.heap.size, 0, none⟩ 1 1 [.string ⟨#[33]⟩] rfl rfl ?c1 ?c2 ?c3 ?c4 ?c5 ?_)
        case c1 => exact new_cells _ _ _ _ rfl _ rfl
        case c2 => intro u hu; simp at hu; rcases hu with rfl; rfl
        case c3 => unfold maxLen; omega
        case c4 => omega
        case c5 => simp; omega
        intro v' w3 hown' hgrow _
        have hk3 : Keeps (fun b => b = r) w w3 := (hkr.alloc _).grown hgrow (fun g hg => .inl (hown.lt g hg).1)
        have hkk : Keeps (fun b => w.heap.size ≤ b) wr w3 := ((Keeps.refl _ wr).alloc _).grown hgrow (fun g hg => .inr (hown.lt g hg).1)
        have hH3 := hHr.keeps hkk (by omega)
        have c3 := hH3.cell 2
        have f3 := hH3.free 2
        have l3 := hH3.lt
        have hH4 := hH3.set 2 (.int .i64 ((i : Int) + 1))
        have hk4 := hk3.setCell (p := ⟨r, 2, none⟩) (.inr rfl) (.int .i64 ((i : Int) + 1))
        have hsg2 := exp_sign r L (i + 1) d false dp gr dv _ (HMK.out _ (i + 1) hk4 (by rw [show (((i + 1 : Nat)) : Int) = (i : Int) + 1 from by omega]; exact hH4) hin (by omega))
        unfold SignPost at hsg2
        simp only [Bool.false_eq_true, if_false] at hsg2
        have hown4 := ownsRow_setCell_below hown' (a := ⟨r, 2, none⟩) hrw (.int .i64 ((i : Int) + 1))
        have HOWN := Lib.hid hown4
        have HH4 := Lib.hid hH4
        have HK4 := Lib.hid hk4
        clear hgrow hown' hown4 hH4 hk4 hH3 hkk hk3
        go_wp2_with fail
        refine hsg2.mono ?_
        rintro e w5 ⟨rfl, _, hk5⟩
        go_wp2_with fail
        go_roundg (gk - 1)
        case measure => omega
        case rel =>
          refine ⟨S ++ [⟨#[33]⟩], i + 1, rfl, ?_, HU2, HB2, ?_, HK4.out.trans (keeps_r hk5) (fun _ _ e => e), Lib.hid ?_, hin, by omega⟩
          · have := ownsRow_keeps HOWN.out hk5 (fun _ _ e => e)
            rw [List.length_append, List.map_append]; exact this
          · rw [show (((i + 1 : Nat)) : Int) = (i : Int) + 1 from by omega]; exact HH4.out.keeps hk5 (fun e => e)
          · show _ = _
            rw [List.length_append, ← hSi.out]; simp; omega
    · obtain ⟨n1, n2, n3⟩ := un_not hu
      have hB2 : ∀ res, Rd L .prim d i res → Rd L .opnd d i0 (res.map fun q => (opsT S q.1, q.2)) := fun res hr => hB.out res (rd_opnd hu hr)
      have HB2 := Lib.hid hB2
      have hSl := hSi.out
      have hii : i0 ≤ i := by omega
      have hsl : S.length ≤ 1000000000 := by omega
      have hpr := HP.out i hii wr (HMK.out wr i hkr hHr hi1 (by omega))
      clear hB2 hB hSl hu
      generalize sgnT L i = t at *
      obtain ⟨ao2, co, rfl⟩ : ∃ a c, u3 = .slice a S.length c := str_slice hown
      go_wp2_with fail
      refine hpr.mono ?_
      rintro e w2 hout
      obtain ⟨v, rfl, hv0, hv1, hk2⟩ := hout.val
      have HOUT := Lib.hid hout
      have hrow := ownsRow_keeps hown hk2 (fun b hb e => by have := (hown.lt b hb).1; omega)
      have hlI : IntKind.i64.wrap ((S.length : Int) - 1) = (S.length : Int) - 1 := IntWalk.i64_in _ (by omega)
      clear hout hown hpr
      go_wp2_with fail
      obtain ⟨wo, rfl⟩ : ∃ x : World, x = wr := ⟨_, rfl⟩
      obtain ⟨go, rfl⟩ : ∃ x : Nat, x = gk := ⟨_, rfl⟩
      go_loopg [5, 6] S.length (fun f x y wr => ∃ m : Nat, m = f ∧ m ≤ S.length ∧ x = .int .u32 (opsT (S.drop m) v) ∧ y = .int .i64 ((m : Int) - 1) ∧ w2 = wr)
      case atStart => exact ⟨S.length, rfl, Nat.le_refl _, by rw [List.drop_of_length_le (Nat.le_refl _)]; rfl, rfl, rfl⟩
      case round =>
        obtain ⟨m, rfl, hm, rfl, rfl, rfl⟩ := hrel
        cases m with
        | zero =>
          rw [List.drop_zero]
          generalize hz : opsT S v = z
          go_wp2_with fail
          go_ret
          rw [← hz]
          exact HOUT.out.ops HB2.out hii hkr (Keeps.refl _ _)
        | succ m =>
          rw [show (((m + 1 : Nat) : Int) - 1) = (m : Int) from by omega]
          have hm' : m < S.length := by omega
          have hub := ops_bounds (S.drop (m + 1)) v hv0 hv1
          have hux := hU.out S[m] (List.getElem_mem hm')
          have hst := ops_drop S v m hm'
          obtain ⟨gs, hsl2, hsl3⟩ : ∃ gs : Nat, ao2 = some ⟨gs, 0, none⟩ ∧ w2.cell? ⟨gs, m, none⟩ = some (.string S[m]) := by
            rcases hrow.2 with ⟨_, h0⟩ | ⟨gs, cap, cur, e, _⟩
            · omega
            · cases e
              refine ⟨gs, rfl, ?_⟩
              rw [hrow.cellAt m (by omega)]; simp [hm']
          subst hsl2
          have HST := Lib.hid hst
          have HROW := Lib.hid hrow
          clear hst hrow
          generalize opsT (S.drop (m + 1)) v = u at *
          have hm1 : (m : Int) < (S.length : Int) := by omega
          have hm2 : IntKind.i64.wrap ((m : Int) - 1) = (m : Int) - 1 := IntWalk.i64_in _ (by omega)
          rcases un_cases hux with hs | hs | hs
          · rw [hs] at hsl3
            have HS := Lib.hid hs
            clear hs hux
            go_wp2_with fail
            go_roundg m
            case measure => omega
            case rel => exact ⟨m, rfl, by omega, by rw [HST.out, HS.out]; rfl, rfl, rfl⟩
          · rw [hs] at hsl3
            have HS := Lib.hid hs
            clear hs hux
            go_wp2_with fail
            go_roundg m
            case measure => omega
            case rel => exact ⟨m, rfl, by omega, by rw [HST.out, HS.out, xor_all u hub.1 hub.2]; rfl, rfl, rfl⟩
          · rw [hs] at hsl3
            have HS := Lib.hid hs
            clear hs hux
            go_wp2_with fail
            refine (exp_bit _ _).mono ?_
            rintro e w' ⟨rfl, rfl⟩
            go_wp2_with fail
            go_roundg m
            case measure => omega
            case rel => exact ⟨m, rfl, by omega, by rw [HST.out, HS.out]; rfl, rfl, rfl⟩
end Go.Proofs.YtiojnbhomjkkgaaGreatDoor

namespace Go.Proofs.YtiojnbhomjkkgaaGreatDoor
open Go.RowKit

theorem wrap_u32 (x : Int) : 0 ≤ IntKind.u32.wrap x ∧ IntKind.u32.wrap x ≤ 4294967295 := by
  have : IntKind.u32.wrap x = x % 4294967296 := rfl
  rw [this]; omega
theorem bit_bounds (h : Bool) : 0 ≤ bitT h ∧ bitT h ≤ 4294967295 := by unfold bitT; split <;> omega
theorem app_bounds (f : Nat) (a b : Int) (ha : 0 ≤ a) (ha1 : a ≤ 4294967295) (hb : 0 ≤ b) (hb1 : b ≤ 4294967295) : 0 ≤ appT f a b ∧ appT f a b ≤ 4294967295 := by
  have hd : 0 ≤ a / b ∧ a / b ≤ 4294967295 := by
    refine ⟨Int.ediv_nonneg ha hb, ?_⟩
    have := Int.ediv_le_self b ha; omega
  have hm : 0 ≤ a % b ∧ a % b ≤ 4294967295 := by
    by_cases h : b = 0
    · subst h; rw [Int.emod_zero]; exact ⟨ha, ha1⟩
    · have h1 := Int.emod_nonneg a h
      have h2 := Int.emod_lt_of_pos a (show 0 < b by omega)
      omega
  have hs : 0 ≤ a / 2 ^ min b.toNat 32 ∧ a / 2 ^ min b.toNat 32 ≤ 4294967295 := by
    have h2 : (0 : Int) ≤ 2 ^ min b.toNat 32 := Int.pow_nonneg (by omega)
    refine ⟨Int.ediv_nonneg ha h2, ?_⟩
    have := Int.ediv_le_self (2 ^ min b.toNat 32) ha; omega
  unfold appT
  split
  any_goals exact bit_bounds _
  any_goals exact wrap_u32 _
  any_goals assumption
  any_goals omega
theorem app_call (f : Nat) (h1 : 1 ≤ f) (h2 : f ≤ 18) : ∃ n, fnT f = .func (.func n) #[] #[] ∧ (∀ (args : Array Value) (w : World), Sem.run Tryz.prog (callFunc n args) w = .ok (.enter n args) w) ∧ ∀ (a b : Int) (w : World), 0 ≤ a → a ≤ 4294967295 → 0 ≤ b → b ≤ 4294967295 → ((f = 2 ∨ f = 3) → 1 ≤ b) →
    Calls Tryz.prog n #[.int .u32 a, .int .u32 b] w (AppPost f a b w) := by
  match f, h1, h2 with
  | 1, _, _ => exact ⟨_, rfl, by intro args w; kernel_rfl, fun a b w ha ha1 hb hb1 _ => exp_t1 a b w ha ha1 hb hb1⟩
  | 2, _, _ => exact ⟨_, rfl, by intro args w; kernel_rfl, fun a b w ha ha1 hb hb1 h => exp_t2 a b w ha ha1 (h (by simp)) hb1⟩
  | 3, _, _ => exact ⟨_, rfl, by intro args w; kernel_rfl, fun a b w ha ha1 hb hb1 h => exp_t3 a b w ha ha1 (h (by simp)) hb1⟩
  | 4, _, _ => exact ⟨_, rfl, by intro args w; kernel_rfl, fun a b w ha ha1 hb hb1 _ => exp_t4 a b w ha ha1 hb hb1⟩
  | 5, _, _ => exact ⟨_, rfl, by intro args w; kernel_rfl, fun a b w ha ha1 hb hb1 _ => exp_t5 a b w ha ha1 hb hb1⟩
  | 6, _, _ => exact ⟨_, rfl, by intro args w; kernel_rfl, fun a b w ha ha1 hb hb1 _ => exp_t6 a b w ha ha1 hb hb1⟩
  | 7, _, _ => exact ⟨_, rfl, by intro args w; kernel_rfl, fun a b w ha ha1 hb hb1 _ => exp_t7 a b w ha ha1 hb hb1⟩
  | 8, _, _ => exact ⟨_, rfl, by intro args w; kernel_rfl, fun a b w ha ha1 hb hb1 _ => exp_t8 a b w ha ha1 hb hb1⟩
  | 9, _, _ => exact ⟨_, rfl, by intro args w; kernel_rfl, fun a b w ha ha1 hb hb1 _ => exp_t9 a b w ha ha1 hb hb1⟩
  | 10, _, _ => exact ⟨_, rfl, by intro args w; kernel_rfl, fun a b w ha ha1 hb hb1 _ => exp_t10 a b w ha ha1 hb hb1⟩
  | 11, _, _ => exact ⟨_, rfl, by intro args w; kernel_rfl, fun a b w ha ha1 hb hb1 _ => exp_t11 a b w ha ha1 hb hb1⟩
  | 12, _, _ => exact ⟨_, rfl, by intro args w; kernel_rfl, fun a b w ha ha1 hb hb1 _ => exp_t12 a b w ha ha1 hb hb1⟩
  | 13, _, _ => exact ⟨_, rfl, by intro args w; kernel_rfl, fun a b w ha ha1 hb hb1 _ => exp_t13 a b w ha ha1 hb hb1⟩
  | 14, _, _ => exact ⟨_, rfl, by intro args w; kernel_rfl, fun a b w ha ha1 hb hb1 _ => exp_t14 a b w ha ha1 hb hb1⟩
  | 15, _, _ => exact ⟨_, rfl, by intro args w; kernel_rfl, fun a b w ha ha1 hb hb1 _ => exp_t15 a b w ha ha1 hb hb1⟩
  | 16, _, _ => exact ⟨_, rfl, by intro args w; kernel_rfl, fun a b w ha ha1 hb hb1 _ => exp_t16 a b w ha ha1 hb hb1⟩
  | 17, _, _ => exact ⟨_, rfl, by intro args w; kernel_rfl, fun a b w ha ha1 hb hb1 _ => exp_t17 a b w ha ha1 hb hb1⟩
  | 18, _, _ => exact ⟨_, rfl, by intro args w; kernel_rfl, fun a b w ha ha1 hb hb1 _ => exp_t18 a b w ha ha1 hb hb1⟩
  | _ + 19, _, h => exact absurd h (by omega)
/-- What the numbers of a row are, and which signs stand for the quotients. -/
theorem row_facts : ∀ k, k < 10 → ∀ p ∈ rowsX.getD k [], 1 ≤ p.2 ∧ p.2 ≤ 18 ∧ (p.2 = 2 ↔ p.1 = ⟨#[47]⟩) ∧ (p.2 = 3 ↔ p.1 = ⟨#[37]⟩) := by decide
theorem rowN_facts {k : Nat} (hk : k < 10) {s : ByteArray} {f : Nat} (h : rowN k s = some f) : 1 ≤ f ∧ f ≤ 18 ∧ (f = 2 ↔ s = ⟨#[47]⟩) ∧ (f = 3 ↔ s = ⟨#[37]⟩) := by
  unfold rowN at h
  obtain ⟨p, hp, e⟩ := Option.map_eq_some_iff.1 h
  have h1 := List.mem_of_find?_eq_some hp
  have h2 := List.find?_some hp
  simp only [decide_eq_true_eq] at h2
  rw [← h2, ← e]
  exact row_facts k hk p h1
end Go.Proofs.YtiojnbhomjkkgaaGreatDoor

namespace Go.Proofs.YtiojnbhomjkkgaaGreatDoor
open Go.RowKit

theorem orF_assoc (a b c : Bool × Bool × Bool) : orF (orF a b) c = orF a (orF b c) := by simp [orF, Bool.or_assoc]
/-- One sign more of a level. -/
theorem lvl_next {r : Nat} {L : List (Int × ByteArray × Int)} {k d i0 i f : Nat} {u v : Int} {dp gr dv p g q : Bool} {w2 w3 w4 : World} (hi : i0 < i) (hrow : rowN k (sgnT L i) = some f)
    (hB : ∀ res, Rd L (.loop k v) d i res → Rd L (.lvl (k + 1)) d i0 (res.map fun y => (y.1, y.2.1, orF (p, g, q) y.2.2)))
    (hw : ∀ (j : Nat) (syn dp gr dv : Bool), RdrAt w3 r L j d syn dp gr dv → RdrAt w4 r L j d syn dp gr (dv || divB f u))
    (h : RdOut r L (.lvl k) d (i + 1) (dp || p) (gr || g) (dv || q) w2 (.returned (.int .u32 u)) w3) :
    (∃ (i' : Nat) (p g q : Bool), i < i' ∧ i' ≤ L.length ∧ RdrAt w4 r L i' d false (dp || p) (gr || g) (dv || q) ∧ Hid (∀ res, Rd L (.loop k (appT f v (if divB f u = true then 1 else u))) d i' res → Rd L (.lvl (k + 1)) d i0 (res.map fun y => (y.1, y.2.1, orF (p, g, q) y.2.2)))) ∨
     (Hid (Rd L (.lvl (k + 1)) d i0 none) ∧ ∃ (i : Nat) (p g q : Bool), RdrAt w4 r L i d true p g q) := by
  rcases h with ⟨u', j, p2, g2, q2, hrd, e, _, _, hj, hm, ha, _⟩ | ⟨hrd, u', j, p2, g2, q2, e, _, _, ha, _⟩
  · obtain rfl : u = u' := by injection e with e; injection e
    refine .inl ⟨j, p || p2, g || g2, q || q2 || divB f u, by omega, hm, ?_, Lib.hid ?_⟩
    · have := hw _ _ _ _ _ ha
      simpa [Bool.or_assoc] using this
    · intro res hr
      have := hB _ (rd_loop hrow hrd hr)
      cases res with
      | none => exact this
      | some y =>
        simp only [Option.map_some] at this ⊢
        simpa [orF, Bool.or_assoc] using this
  · obtain rfl : u = u' := by injection e with e; injection e
    exact .inr ⟨Lib.hid (hB _ (rd_loop_none hrow hrd)), j, p2, g2, q2 || divB f u, hw _ _ _ _ _ ha⟩

set_option maxRecDepth 100000 in
set_option maxHeartbeats 8000000 in
theorem exp_level_succ (r : Nat) (L : List (Int × ByteArray × Int)) (d i0 k : Nat) (hk : k < 10) (dp gr dv : Bool) (w : World) (h : RdrAt w r L i0 d false dp gr dv)
    (hL : ∀ j, i0 ≤ j → ∀ (dp gr dv : Bool) (w : World), RdrAt w r L j d false dp gr dv → Calls Tryz.prog 89 #[.pointer (some ⟨r, 0, none⟩), .int .i64 ((k : Int) - 1)] w (RdOut r L (.lvl k) d j dp gr dv w)) :
    Calls Tryz.prog 89 #[.pointer (some ⟨r, 0, none⟩), .int .i64 (k : Int)] w (RdOut r L (.lvl (k + 1)) d i0 dp gr dv w) := by
  have ho := hL i0 (Nat.le_refl _) dp gr dv w h
  have HL := Lib.hid hL
  have hk1 : ¬ ((k : Int) < 0) := by omega
  have hk2 : IntKind.i64.wrap ((k : Int) - 1) = (k : Int) - 1 := IntWalk.i64_in _ (by omega)
  have hk0 : (0 : Int) ≤ (k : Int) := by omega
  have hk9 : (k : Int) < 10 := by omega
  have hkn : ((k : Int)).toNat = k := by omega
  have HK := Lib.hid hk
  clear hL hk h
  go_enter Tryz.func89, Tryz.ntmps89
  go_wp2_with fail
  refine ho.mono ?_
  rintro e w1 hout
  obtain ⟨v0, rfl, hv0, hv1, hkp⟩ := hout.val
  have hst : (∃ (v i : Int) , v = 0 ∧ i = 0) := ⟨0, 0, rfl, rfl⟩
  clear hst
  have HOUT := Lib.hid hout
  clear hout
  go_wp2_with fail
  go_loopg [5] (L.length + 1) (fun f x wr => ∃ v : Int, x = .int .u32 v ∧ 0 ≤ v ∧ v ≤ 4294967295 ∧ Keeps (fun b => b = r) w wr ∧
    ((∃ (i : Nat) (p g q : Bool), i0 < i ∧ i ≤ L.length ∧ L.length + 1 ≤ i + f ∧ RdrAt wr r L i d false (dp || p) (gr || g) (dv || q) ∧ Hid (∀ res, Rd L (.loop k v) d i res → Rd L (.lvl (k + 1)) d i0 (res.map fun y => (y.1, y.2.1, orF (p, g, q) y.2.2)))) ∨
     (Hid (Rd L (.lvl (k + 1)) d i0 none) ∧ ∃ (i : Nat) (p g q : Bool), RdrAt wr r L i d true p g q)))
  case atStart =>
    refine ⟨v0, rfl, hv0, hv1, hkp, ?_⟩
    rcases HOUT.out with ⟨v, j, p, g, q, hrd, e, _, _, hj, hm, ha, _⟩ | ⟨hrd, v, j, p, g, q, e, _, _, ha, _⟩
    · obtain rfl : v0 = v := by injection e with e; injection e
      exact .inl ⟨j, p, g, q, hj, hm, by omega, ha, Lib.hid (fun res hr => rd_lvl hrd hr)⟩
    · exact .inr ⟨Lib.hid (rd_lvl_none hrd), j, p, g, q, ha⟩
  case round =>
    obtain ⟨v, rfl, hv0, hv1, hkw, hcase⟩ := hrel
    rcases hcase with ⟨i, p, g, q, hi0, hi1, hi2, hr, hB⟩ | ⟨hN, i, p, g, q, hr⟩
    · have hsg := exp_sign r L i d false (dp || p) (gr || g) (dv || q) wr hr
      unfold SignPost at hsg
      simp only [Bool.false_eq_true, if_false] at hsg
      clear hr
      cases hrow : rowN k (sgnT L i) with
      | none =>
        have hfin := hB.out _ (rd_loop_end (d := d) (v := v) hrow)
        go_wp2_with fail
        refine hsg.mono ?_
        rintro e w2 ⟨rfl, hr2, hkp2⟩
        obtain ⟨gt, m, z, c1, cm, hl⟩ := hr2.look k HK.out (sgnT L i) (sgn_size hr2 i)
        rw [hrow] at hl
        simp only [Option.isSome_none] at hl
        have rl := hr2.cells.2.2.2.2.2.2.2.2.2.2.2.2.1
        have HR2 := Lib.hid hr2
        have HF := Lib.hid hfin
        clear hr2 hrow hfin
        generalize sgnT L i = t at *
        go_wp2_with fail
        go_ret
        refine .inl ⟨v, i, p, g, q, ?_, rfl, hv0, hv1, hi0, hi1, HR2.out, hkw.trans (keeps_r hkp2) (fun _ _ e => e)⟩
        have := HF.out
        simpa [orF, noF] using this
      | some f =>
        obtain ⟨hf1, hf2, hf3, hf4⟩ := rowN_facts HK.out hrow
        have hin : i + 1 ≤ L.length := sgn_in (by intro e; rw [e, rows_nil k HK.out] at hrow; exact absurd hrow (by simp))
        obtain ⟨n, hfn, hcf, happ⟩ := app_call f hf1 hf2
        have HAPP := Lib.hid happ
        clear happ
        have hrow0 := hrow
        have HROW := Lib.hid hrow0
        clear hrow0
        go_wp2_with fail
        refine hsg.mono ?_
        rintro e w2 ⟨rfl, hr2, hkp2⟩
        obtain ⟨gt, m, z, c1, cm, hl⟩ := hr2.look k HK.out (sgnT L i) (sgn_size hr2 i)
        rw [hrow] at hl
        simp only [Option.isSome_some, hfn] at hl
        obtain ⟨c2, _, _, _, _, _, f2, _, _, _, _, _, rl, _, _, _⟩ := hr2.cells
        obtain ⟨hr3, hkp3⟩ := hr2.on hin
        have hlv := HL.out (i + 1) (by omega) _ _ _ _ hr3
        clear hr2 hr3 hrow hsg
        have HF3 := Lib.hid hf3
        have HF4 := Lib.hid hf4
        clear hf3 hf4
        have hS : ∃ t, t = sgnT L i := ⟨_, rfl⟩
        obtain ⟨t, ht⟩ := hS
        rw [← ht] at hl
        have HT := Lib.hid ht
        rw [← ht]
        clear ht
        go_wp2_with fail
        refine hlv.mono ?_
        rintro e w3 hout
        obtain ⟨u, rfl, hu0, hu1, hkp4⟩ := hout.val
        have HOUT := Lib.hid hout
        have hkw3 := ((hkw.trans (keeps_r hkp2) (fun _ _ e => e)).trans hkp3 (fun _ _ e => e)).trans hkp4 (fun _ _ e => e)
        have HKW3 := Lib.hid hkw3
        have hrx : ∃ (j : Nat) (s2 p2 g2 q2 : Bool), RdrAt w3 r L j d s2 p2 g2 q2 := by
          rcases HOUT.out with ⟨_, j, _, _, _, _, _, _, _, _, _, ha, _⟩ | ⟨_, _, j, _, _, _, _, _, _, ha, _⟩
          · exact ⟨_, _, _, _, _, ha⟩
          · exact ⟨_, _, _, _, _, ha⟩
        obtain ⟨jx, sx, px, gx, qx, hrx⟩ := hrx
        have c7 := hrx.cells.2.2.2.2.2.1
        have f7 := hrx.cells.2.2.2.2.2.2.2.2.2.2.2.1
        have rl3 := hrx.cells.2.2.2.2.2.2.2.2.2.2.2.2.1
        clear hout hkw3 hrx hlv hkp2 hkp3 hkp4 hkw c1 cm hl c2 f2
        by_cases hz : u = 0
        · by_cases h47 : t = ⟨#[47]⟩
          · subst hz
            subst h47
            have hff : f = 2 := HF3.out.2 HT.out.symm
            have hdb : divB f 0 = true := by rw [hff]; rfl
            clear hff
            have hn := lvl_next hi0 HROW.out hB.out (w4 := w3.setCell ⟨r, 7, none⟩ (.bool true)) (fun j syn dp gr dv hh => by
              rw [hdb, Bool.or_true]
              exact (hh.put 7 (.bool true) (i' := j) (d' := d) (syn' := syn) (dp' := dp) (gr' := gr) (dv' := true) hh.cells.2.2.2.2.2.2.2.2.2.2.2.2.2.1 hh.cells.2.2.2.2.2.2.2.2.2.2.2.2.2.2.2 (fun _ _ => rfl)).1) HOUT.out
            rw [if_pos hdb] at hn
            have HNX := Lib.hid hn
            have hkl := Lib.hid (HKW3.out.setCell (p := ⟨r, 7, none⟩) (.inr rfl) (.bool true))
            clear hn hB
            have hap := app_bounds f v 1 hv0 hv1 (by omega) (by omega)
            go_wp2_with fail
            refine (HAPP.out v 1 _ hv0 hv1 (by omega) (by omega) (fun _ => by omega)).mono ?_
            rintro e w5 ⟨rfl, rfl⟩
            go_wp2_with fail
            go_roundg (gk - 1)
            case measure => omega
            case rel =>
              refine ⟨_, rfl, hap.1, hap.2, hkl.out, ?_⟩
              rcases HNX.out with ⟨i', p', g', q', e1, e2, e3, e4⟩ | e
              · exact .inl ⟨i', p', g', q', by omega, e2, by omega, e3, e4⟩
              · exact .inr e
          · by_cases h37 : t = ⟨#[37]⟩
            · subst hz
              subst h37
              have hff : f = 3 := HF4.out.2 HT.out.symm
              have hdb : divB f 0 = true := by rw [hff]; rfl
              clear hff
              have hn := lvl_next hi0 HROW.out hB.out (w4 := w3.setCell ⟨r, 7, none⟩ (.bool true)) (fun j syn dp gr dv hh => by
                rw [hdb, Bool.or_true]
                exact (hh.put 7 (.bool true) (i' := j) (d' := d) (syn' := syn) (dp' := dp) (gr' := gr) (dv' := true) hh.cells.2.2.2.2.2.2.2.2.2.2.2.2.2.1 hh.cells.2.2.2.2.2.2.2.2.2.2.2.2.2.2.2 (fun _ _ => rfl)).1) HOUT.out
              rw [if_pos hdb] at hn
              have HNX := Lib.hid hn
              have hkl := Lib.hid (HKW3.out.setCell (p := ⟨r, 7, none⟩) (.inr rfl) (.bool true))
              clear hn hB
              have hap := app_bounds f v 1 hv0 hv1 (by omega) (by omega)
              go_wp2_with fail
              refine (HAPP.out v 1 _ hv0 hv1 (by omega) (by omega) (fun _ => by omega)).mono ?_
              rintro e w5 ⟨rfl, rfl⟩
              go_wp2_with fail
              go_roundg (gk - 1)
              case measure => omega
              case rel =>
                refine ⟨_, rfl, hap.1, hap.2, hkl.out, ?_⟩
                rcases HNX.out with ⟨i', p', g', q', e1, e2, e3, e4⟩ | e
                · exact .inl ⟨i', p', g', q', by omega, e2, by omega, e3, e4⟩
                · exact .inr e
            · subst hz
              have n1 : (t.toList == [47]) = false := by rw [beq_eq_false_iff_ne]; intro e; exact h47 (text_of e)
              have n2 : (t.toList == [37]) = false := by rw [beq_eq_false_iff_ne]; intro e; exact h37 (text_of e)
              have hf2n : f ≠ 2 := fun e => h47 (HT.out.trans (HF3.out.1 e))
              have hf3n : f ≠ 3 := fun e => h37 (HT.out.trans (HF4.out.1 e))
              have hdb : divB f 0 = false := by unfold divB; simp [hf2n, hf3n]
              have hn := lvl_next hi0 HROW.out hB.out (w4 := w3) (fun j syn dp gr dv hh => by rw [hdb, Bool.or_false]; exact hh) HOUT.out
              rw [if_neg (by rw [hdb]; simp)] at hn
              have HNX := Lib.hid hn
              clear hn hB
              have hap := app_bounds f v 0 hv0 hv1 hu0 hu1
              go_wp2_with fail
              refine (HAPP.out v 0 w3 hv0 hv1 hu0 hu1 (by rintro (e | e); exact absurd e hf2n; exact absurd e hf3n)).mono ?_
              rintro e w5 ⟨rfl, rfl⟩
              go_wp2_with fail
              go_roundg (gk - 1)
              case measure => omega
              case rel =>
                refine ⟨_, rfl, hap.1, hap.2, HKW3.out, ?_⟩
                rcases HNX.out with ⟨i', p', g', q', e1, e2, e3, e4⟩ | e
                · exact .inl ⟨i', p', g', q', by omega, e2, by omega, e3, e4⟩
                · exact .inr e
        · have hnz : (u == 0) = false := by simpa using hz
          have hdb : divB f u = false := by unfold divB; rw [hnz]; rfl
          have hn := lvl_next hi0 HROW.out hB.out (w4 := w3) (fun j syn dp gr dv hh => by rw [hdb, Bool.or_false]; exact hh) HOUT.out
          rw [if_neg (by rw [hdb]; simp)] at hn
          have HNX := Lib.hid hn
          clear hn hB
          have hap := app_bounds f v u hv0 hv1 hu0 hu1
          go_wp2_with fail
          refine (HAPP.out v u w3 hv0 hv1 hu0 hu1 (by intro _; omega)).mono ?_
          rintro e w5 ⟨rfl, rfl⟩
          go_wp2_with fail
          go_roundg (gk - 1)
          case measure => omega
          case rel =>
            refine ⟨_, rfl, hap.1, hap.2, HKW3.out, ?_⟩
            rcases HNX.out with ⟨i', p', g', q', e1, e2, e3, e4⟩ | e
            · exact .inl ⟨i', p', g', q', by omega, e2, by omega, e3, e4⟩
            · exact .inr e
    · have hsg := exp_sign r L i d true p g q wr hr
      unfold SignPost at hsg
      rw [if_pos rfl] at hsg
      clear hr
      go_wp2_with fail
      refine hsg.mono ?_
      rintro e w2 ⟨rfl, hr2, hkp2⟩
      obtain ⟨gt, m, z, c1, cm, hl⟩ := hr2.look k HK.out ⟨#[]⟩ (Nat.zero_le _)
      rw [rows_nil k HK.out] at hl
      simp only [Option.isSome_none] at hl
      have rl := hr2.cells.2.2.2.2.2.2.2.2.2.2.2.2.1
      have HR2 := Lib.hid hr2
      clear hr2
      go_wp2_with fail
      go_ret
      exact .inr ⟨hN.out, v, i, p, g, q, rfl, hv0, hv1, HR2.out, hkw.trans (keeps_r hkp2) (fun _ _ e => e)⟩
end Go.Proofs.YtiojnbhomjkkgaaGreatDoor

namespace Go.Proofs.YtiojnbhomjkkgaaGreatDoor
open Go.RowKit

/-- A result with what was noted before. -/
def addF (fl : Bool × Bool × Bool) (res : Option (Int × Nat × Bool × Bool × Bool)) : Option (Int × Nat × Bool × Bool × Bool) := res.map fun y => (y.1, y.2.1, orF fl y.2.2)
theorem addF_add (a b : Bool × Bool × Bool) (res : Option (Int × Nat × Bool × Bool × Bool)) : addF a (addF b res) = addF (orF a b) res := by
  cases res with
  | none => rfl
  | some y => simp [addF, orF_assoc]
theorem orF_no (a : Bool × Bool × Bool) : orF a noF = a := by simp [orF, noF]
theorem no_orF (a : Bool × Bool × Bool) : orF noF a = a := by simp [orF, noF]
theorem addF_no (res : Option (Int × Nat × Bool × Bool × Bool)) : addF noF res = res := by
  cases res with
  | none => rfl
  | some y => simp [addF, no_orF]

/-- What the first K levels' loops make of a value, one after the other. -/
def RL (L : List (Int × ByteArray × Int)) : Nat → Int → Nat → Nat → Option (Int × Nat × Bool × Bool × Bool) → Prop
  | 0, v, _, i, res => res = some (v, i, noF)
  | K + 1, v, d, i, res => ∃ r1, RL L K v d i r1 ∧ match r1 with
    | none => res = none
    | some q => ∃ r2, Rd L (.loop K q.1) d q.2.1 r2 ∧ res = addF q.2.2 r2
theorem RL.det {L : List (Int × ByteArray × Int)} : ∀ {K : Nat} {v : Int} {d i : Nat} {r s : Option (Int × Nat × Bool × Bool × Bool)}, RL L K v d i r → RL L K v d i s → r = s := by
  intro K
  induction K with
  | zero => intro v d i r s h k; exact h.trans k.symm
  | succ K ih =>
    intro v d i r s ⟨a, ha, ha2⟩ ⟨b, hb, hb2⟩
    obtain rfl := ih ha hb
    cases a with
    | none => exact ha2.trans hb2.symm
    | some q =>
      obtain ⟨x, hx, rfl⟩ := ha2
      obtain ⟨y, hy, rfl⟩ := hb2
      rw [hx.det hy]
/-- A level: an operand, and the loops behind it. -/
theorem rd_lvls {L : List (Int × ByteArray × Int)} {d i : Nat} {q : Int × Nat × Bool × Bool × Bool} (h : Rd L .opnd d i (some q)) : ∀ (K : Nat) (res : Option (Int × Nat × Bool × Bool × Bool)), RL L K q.1 d q.2.1 res → Rd L (.lvl K) d i (addF q.2.2 res) := by
  intro K
  induction K with
  | zero =>
    intro res hr
    obtain rfl : res = some (q.1, q.2.1, noF) := hr
    show Rd L (.lvl 0) d i (some (q.1, q.2.1, orF q.2.2 noF))
    rw [orF_no]
    exact rd_lvl0 h
  | succ K ih =>
    intro res ⟨r1, h1, h2⟩
    have := ih r1 h1
    cases r1 with
    | none =>
      obtain rfl : res = none := h2
      exact rd_lvl_none this
    | some p =>
      obtain ⟨r2, h3, rfl⟩ := h2
      rw [addF_add]
      exact rd_lvl (q := (p.1, p.2.1, orF q.2.2 p.2.2)) this h3
theorem rd_lvls_none {L : List (Int × ByteArray × Int)} {d i : Nat} (h : Rd L .opnd d i none) : ∀ (K : Nat), Rd L (.lvl K) d i none := by
  intro K
  induction K with
  | zero => exact rd_lvl0 h
  | succ K ih => exact rd_lvl_none ih
theorem rl_end {L : List (Int × ByteArray × Int)} {v : Int} {d i : Nat} : ∀ (K : Nat), (∀ q, q < K → rowN q (sgnT L i) = none) → RL L K v d i (some (v, i, noF)) := by
  intro K
  induction K with
  | zero => intro _; rfl
  | succ K ih =>
    intro h
    refine ⟨_, ih (fun q hq => h q (by omega)), ?_⟩
    exact ⟨_, rd_loop_end (h K (by omega)), by simp [addF, orF, noF]⟩
theorem loop_end {L : List (Int × ByteArray × Int)} {k d : Nat} (hl : ∀ (i : Nat) (q : Int × Nat × Bool × Bool × Bool), Rd L (.lvl k) d i (some q) → ∀ m, m < k → rowN m (sgnT L q.2.1) = none) :
    ∀ (n : Nat) (v : Int) (i : Nat) (q : Int × Nat × Bool × Bool × Bool), evT L n (.loop k v) d i = some (some q) → (∀ m, m < k → rowN m (sgnT L i) = none) → ∀ m, m < k + 1 → rowN m (sgnT L q.2.1) = none := by
  intro n
  induction n with
  | zero => intro v i q h; simp [evT] at h
  | succ n ih =>
    intro v i q h hp m hm
    rw [evT] at h
    cases hr : rowN k (sgnT L i) with
    | none =>
      rw [hr] at h
      obtain rfl := Option.some.inj (Option.some.inj h)
      rcases Nat.lt_or_ge m k with c | c
      · exact hp m c
      · obtain rfl : m = k := by omega
        exact hr
    | some f =>
      rw [hr] at h
      obtain ⟨r, hr1, hr2⟩ := Option.bind_eq_some_iff.1 h
      cases r with
      | none => simp at hr2
      | some y =>
        obtain ⟨r2, h3, h4⟩ := Option.map_eq_some_iff.1 hr2
        cases r2 with
        | none => simp at h4
        | some z =>
          have := ih _ _ _ h3 (hl _ _ ⟨n, hr1⟩) m hm
          simp only [Option.map_some, Option.some.injEq] at h4
          rw [← h4]; exact this
/-- Behind a level there is none of its signs. -/
theorem lvl_end {L : List (Int × ByteArray × Int)} {d : Nat} : ∀ (k i : Nat) (q : Int × Nat × Bool × Bool × Bool), Rd L (.lvl k) d i (some q) → ∀ m, m < k → rowN m (sgnT L q.2.1) = none := by
  intro k
  induction k with
  | zero => intro i q _ m hm; omega
  | succ k ih =>
    intro i q ⟨n, hn⟩ m hm
    cases n with
    | zero => simp [evT] at hn
    | succ n =>
      rw [evT] at hn
      obtain ⟨r, hr1, hr2⟩ := Option.bind_eq_some_iff.1 hn
      cases r with
      | none => simp at hr2
      | some y =>
        obtain ⟨r2, h3, h4⟩ := Option.map_eq_some_iff.1 hr2
        cases r2 with
        | none => simp at h4
        | some z =>
          have := loop_end (fun i q h => ih i q h) n _ _ _ h3 (ih i y ⟨n, hr1⟩) m hm
          simp only [Option.map_some, Option.some.injEq] at h4
          rw [← h4]; exact this
section
variable {L : List (Int × ByteArray × Int)} {d j k f : Nat} {x : Int}
/-- One sign more of a climb. -/
theorem rl_step {u : Int × Nat × Bool × Bool × Bool} (hrow : rowN k (sgnT L j) = some f) (hone : ∀ m, m < k → rowN m (sgnT L j) = none) (h : Rd L (.lvl k) d (j + 1) (some u)) :
    ∀ (K : Nat), k < K → ∀ res, RL L K (appT f x (if divB f u.1 = true then 1 else u.1)) d u.2.1 res → RL L K x d j (addF (orF u.2.2 (false, false, divB f u.1)) res) := by
  intro K
  induction K with
  | zero => intro hk; omega
  | succ K ih =>
    intro hk res ⟨r1, h1, h2⟩
    rcases Nat.lt_or_ge k K with c | c
    · have := ih c r1 h1
      refine ⟨_, this, ?_⟩
      cases r1 with
      | none => obtain rfl : res = none := h2; rfl
      | some p =>
        obtain ⟨r2, h3, rfl⟩ := h2
        exact ⟨r2, h3, by rw [addF_add]⟩
    · obtain rfl : k = K := by omega
      have e1 := h1.det (rl_end k (lvl_end k _ _ h))
      subst e1
      obtain ⟨r2, h3, rfl⟩ := h2
      refine ⟨_, rl_end k hone, ?_⟩
      refine ⟨_, rd_loop hrow h h3, ?_⟩
      show addF _ (addF noF r2) = addF noF _
      rw [addF_no, addF_no]
      rfl
theorem rl_none (hrow : rowN k (sgnT L j) = some f) (hone : ∀ m, m < k → rowN m (sgnT L j) = none) (h : Rd L (.lvl k) d (j + 1) none) :
    ∀ (K : Nat), k < K → RL L K x d j none := by
  intro K
  induction K with
  | zero => intro hk; omega
  | succ K ih =>
    intro hk
    rcases Nat.lt_or_ge k K with c | c
    · exact ⟨none, ih c, rfl⟩
    · obtain rfl : k = K := by omega
      exact ⟨_, rl_end k hone, none, rd_loop_none hrow h, rfl⟩
end
end Go.Proofs.YtiojnbhomjkkgaaGreatDoor

namespace Go.Proofs.YtiojnbhomjkkgaaGreatDoor
open Go.RowKit

theorem exp_level0 (r : Nat) (L : List (Int × ByteArray × Int)) (d i : Nat) (dp gr dv : Bool) (w : World)
    (ho : Calls Tryz.prog 170 #[.pointer (some ⟨r, 0, none⟩)] w (RdOut r L .opnd d i dp gr dv w)) :
    Calls Tryz.prog 89 #[.pointer (some ⟨r, 0, none⟩), .int .i64 (-1)] w (RdOut r L (.lvl 0) d i dp gr dv w) := by
  go_enter Tryz.func89, Tryz.ntmps89
  go_wp2_with fail
  refine ho.mono ?_
  rintro e w2 hout
  obtain ⟨v, rfl, _, _, _⟩ := hout.val
  have HOUT := Lib.hid hout
  clear hout
  go_wp2_with fail
  go_ret
  rcases HOUT.out with ⟨u, j, p, g, q, hrd, rest⟩ | ⟨hrd, rest⟩
  · exact .inl ⟨u, j, p, g, q, rd_lvl0 hrd, rest⟩
  · exact .inr ⟨rd_lvl0 hrd, rest⟩
theorem exp_level (r : Nat) (L : List (Int × ByteArray × Int)) (d i0 : Nat)
    (hO : ∀ j, i0 ≤ j → ∀ (dp gr dv : Bool) (w : World), RdrAt w r L j d false dp gr dv → Calls Tryz.prog 170 #[.pointer (some ⟨r, 0, none⟩)] w (RdOut r L .opnd d j dp gr dv w)) :
    ∀ (k : Nat), k ≤ 10 → ∀ j, i0 ≤ j → ∀ (dp gr dv : Bool) (w : World), RdrAt w r L j d false dp gr dv →
      Calls Tryz.prog 89 #[.pointer (some ⟨r, 0, none⟩), .int .i64 ((k : Int) - 1)] w (RdOut r L (.lvl k) d j dp gr dv w) := by
  intro k
  induction k with
  | zero => intro _ j hj dp gr dv w h; exact exp_level0 r L d j dp gr dv w (hO j hj dp gr dv w h)
  | succ k ih =>
    intro hk j hj dp gr dv w h
    rw [show (((k + 1 : Nat) : Int) - 1) = (k : Int) from by omega]
    exact exp_level_succ r L d j k (by omega) dp gr dv w h (fun j' hj' => ih (by omega) j' (by omega))

set_option maxRecDepth 100000 in
set_option maxHeartbeats 8000000 in
theorem exp_whole (r : Nat) (L : List (Int × ByteArray × Int)) (d i0 : Nat) (dp gr dv : Bool) (w : World) (h : RdrAt w r L i0 d false dp gr dv)
    (hV : Calls Tryz.prog 89 #[.pointer (some ⟨r, 0, none⟩), .int .i64 9] w (RdOut r L (.lvl 10) d i0 dp gr dv w))
    (hW : ∀ j, i0 < j → ∀ (dp gr dv : Bool) (w : World), RdrAt w r L j d false dp gr dv → Calls Tryz.prog 45 #[.pointer (some ⟨r, 0, none⟩)] w (RdOut r L .whole d j dp gr dv w)) :
    Calls Tryz.prog 45 #[.pointer (some ⟨r, 0, none⟩)] w (RdOut r L .whole d i0 dp gr dv w) := by
  obtain ⟨gt, m, z, c1, cm, hl⟩ := h.look 0 (by omega) ⟨#[]⟩ (Nat.zero_le _)
  have rl := h.cells.2.2.2.2.2.2.2.2.2.2.2.2.1
  have HW := Lib.hid hW
  clear h cm hl hW
  go_enter Tryz.func45, Tryz.ntmps45
  go_wp2_with fail
  refine hV.mono ?_
  clear hV c1
  rintro e w1 (⟨v, j, p, g, q, hrd, rfl, hv0, hv1, hj0, hj1, hr1, hkp1⟩ | ⟨hrd, v, j, p, g, q, rfl, hv0, hv1, hr1, hkp1⟩)
  · have hsg := exp_sign r L j d false _ _ _ w1 hr1
    unfold SignPost at hsg
    simp only [Bool.false_eq_true, if_false] at hsg
    have HRD := Lib.hid hrd
    clear hrd
    by_cases hs : sgnT L j = ⟨#[63]⟩
    · have hin : j + 1 ≤ L.length := sgn_in (by rw [hs]; decide)
      have HS := Lib.hid hs
      rw [hs] at hsg
      clear hs
      go_wp2_with fail
      refine hsg.mono ?_
      rintro e w2 ⟨rfl, hr2, hkp2⟩
      obtain ⟨c2, _, _, _, _, _, f2, _, _, _, _, _, rl2, _, _, _⟩ := hr2.cells
      obtain ⟨hr3, hkp3⟩ := hr2.on hin
      have hwc := HW.out (j + 1) (by omega) _ _ _ _ hr3
      have hkp4 := (hkp1.trans (keeps_r hkp2) (fun _ _ e => e)).trans hkp3 (fun _ _ e => e)
      clear hr2 hr3 hsg hr1 hkp1 hkp2 hkp3
      go_wp2_with fail
      refine hwc.mono ?_
      clear hwc c2 f2
      rintro e w3 (⟨y, j2, p2, g2, q2, hrd2, rfl, hy0, hy1, hj2, hj3, hr4, hkp5⟩ | ⟨hrd2, y, j2, p2, g2, q2, rfl, hy0, hy1, hr4, hkp5⟩)
      · have hkp6 := hkp4.trans hkp5 (fun _ _ e => e)
        have hex := exp_expect r L j2 d false _ _ _ ⟨#[58]⟩ _ hr4 (by decide)
        unfold ExpectPost at hex
        have HRD2 := Lib.hid hrd2
        clear hr4 hkp4 hkp5 hrd2
        by_cases hc : sgnT L j2 = ⟨#[58]⟩
        · have hin2 : j2 + 1 ≤ L.length := sgn_in (by rw [hc]; decide)
          have HC := Lib.hid hc
          go_wp2_with fail
          refine hex.mono ?_
          rintro e w4 ⟨rfl, hk7, he1, _⟩
          have hr5 := he1 ⟨by trivial, hc⟩
          have hk8 := hkp6.trans hk7 (fun _ _ e => e)
          have hwc := HW.out (j2 + 1) (by omega) _ _ _ _ hr5
          clear hex he1 hr5 hkp6 hk7 hc
          go_wp2_with fail
          refine hwc.mono ?_
          clear hwc
          rintro e w5 (⟨u, j4, p4, g4, q4, hrd4, rfl, hu0, hu1, hj4, hj5, hr6, hkp9⟩ | ⟨hrd4, u, j4, p4, g4, q4, rfl, hu0, hu1, hr6, hkp9⟩)
          · have hkA := hk8.trans hkp9 (fun _ _ e => e)
            have hif := Lib.hid (rd_if HRD.out HS.out HRD2.out HC.out hrd4)
            have HR6 := Lib.hid hr6
            clear hr6 hrd4
            by_cases hz : v = 0
            · have hnz : (v != 0) = false := by subst hz; rfl
              go_wp2_with fail
              go_ret
              exact .inl ⟨u, j4, p || p2 || p4, g || g2 || g4, q || q2 || q4, by have := hif.out; simpa [orF, hz] using this, rfl, hu0, hu1, by omega, hj5, by simpa [Bool.or_assoc] using HR6.out, hkA⟩
            · have hnz : (v != 0) = true := by simpa using hz
              go_wp2_with fail
              go_ret
              exact .inl ⟨y, j4, p || p2 || p4, g || g2 || g4, q || q2 || q4, by have := hif.out; simpa [orF, hz] using this, rfl, hy0, hy1, by omega, hj5, by simpa [Bool.or_assoc] using HR6.out, hkA⟩
          · have hkA := hk8.trans hkp9 (fun _ _ e => e)
            have hif := Lib.hid (rd_if HRD.out HS.out HRD2.out HC.out hrd4)
            have HR6 := Lib.hid hr6
            clear hr6 hrd4
            by_cases hz : v = 0
            · have hnz : (v != 0) = false := by subst hz; rfl
              go_wp2_with fail
              go_ret
              exact .inr ⟨hif.out, u, j4, p4, g4, q4, rfl, hu0, hu1, HR6.out, hkA⟩
            · have hnz : (v != 0) = true := by simpa using hz
              go_wp2_with fail
              go_ret
              exact .inr ⟨hif.out, y, j4, p4, g4, q4, rfl, hy0, hy1, HR6.out, hkA⟩
        · have hif := Lib.hid (rd_if_bad HRD.out HS.out HRD2.out hc)
          go_wp2_with fail
          refine hex.mono ?_
          rintro e w4 ⟨rfl, hk7, _, he2⟩
          have hr5 := he2 (fun e => hc e.2)
          have hk8 := hkp6.trans hk7 (fun _ _ e => e)
          have hwc := syn_whole r L d _ _ _ _ w4 hr5
          unfold SynOut at hwc
          clear hex he2 hr5 hkp6 hk7 hc
          go_wp2_with fail
          refine hwc.mono ?_
          clear hwc
          rintro e w5 ⟨u, j4, p4, g4, q4, rfl, hu0, hu1, hr6, hkp9⟩
          have hkA := hk8.trans hkp9 (fun _ _ e => e)
          have HR6 := Lib.hid hr6
          clear hr6
          by_cases hz : v = 0
          · have hnz : (v != 0) = false := by subst hz; rfl
            go_wp2_with fail
            go_ret
            exact .inr ⟨hif.out, u, j4, p4, g4, q4, rfl, hu0, hu1, HR6.out, hkA⟩
          · have hnz : (v != 0) = true := by simpa using hz
            go_wp2_with fail
            go_ret
            exact .inr ⟨hif.out, y, j4, p4, g4, q4, rfl, hy0, hy1, HR6.out, hkA⟩
      · have hkp6 := hkp4.trans hkp5 (fun _ _ e => e)
        have hex := exp_expect r L j2 d true _ _ _ ⟨#[58]⟩ _ hr4 (by decide)
        unfold ExpectPost at hex
        have hif := Lib.hid (rd_if_none HRD.out HS.out hrd2)
        clear hr4 hkp4 hkp5 hrd2
        go_wp2_with fail
        refine hex.mono ?_
        rintro e w4 ⟨rfl, hk7, _, he2⟩
        have hr5 := he2 (by simp)
        have hk8 := hkp6.trans hk7 (fun _ _ e => e)
        have hwc := syn_whole r L d _ _ _ _ w4 hr5
        unfold SynOut at hwc
        clear hex he2 hr5 hkp6 hk7
        go_wp2_with fail
        refine hwc.mono ?_
        clear hwc
        rintro e w5 ⟨u, j4, p4, g4, q4, rfl, hu0, hu1, hr6, hkp9⟩
        have hkA := hk8.trans hkp9 (fun _ _ e => e)
        have HR6 := Lib.hid hr6
        clear hr6
        by_cases hz : v = 0
        · have hnz : (v != 0) = false := by subst hz; rfl
          go_wp2_with fail
          go_ret
          exact .inr ⟨hif.out, u, j4, p4, g4, q4, rfl, hu0, hu1, HR6.out, hkA⟩
        · have hnz : (v != 0) = true := by simpa using hz
          go_wp2_with fail
          go_ret
          exact .inr ⟨hif.out, y, j4, p4, g4, q4, rfl, hy0, hy1, HR6.out, hkA⟩
    · have hnl : ((sgnT L j).toList == [63]) = false := by
        rw [beq_eq_false_iff_ne]; intro e; exact hs (text_of e)
      have HF := Lib.hid (rd_whole HRD.out hs)
      clear hs
      generalize sgnT L j = t at hsg hnl
      go_wp2_with fail
      refine hsg.mono ?_
      rintro e w2 ⟨rfl, hr2, hkp2⟩
      go_wp2_with fail
      go_ret
      exact .inl ⟨v, j, p, g, q, HF.out, rfl, hv0, hv1, hj0, hj1, hr2, hkp1.trans (keeps_r hkp2) (fun _ _ e => e)⟩
  · have hsg := exp_sign r L j d true _ _ _ w1 hr1
    unfold SignPost at hsg
    rw [if_pos rfl] at hsg
    go_wp2_with fail
    refine hsg.mono ?_
    rintro e w2 ⟨rfl, hr2, hkp2⟩
    go_wp2_with fail
    go_ret
    exact .inr ⟨rd_whole_none hrd, v, j, p, g, q, rfl, hv0, hv1, hr2, hkp1.trans (keeps_r hkp2) (fun _ _ e => e)⟩
end Go.Proofs.YtiojnbhomjkkgaaGreatDoor

namespace Go.Proofs.YtiojnbhomjkkgaaGreatDoor
open Go.RowKit

/-- From any place on the methods read as Rd says. -/
theorem exp_all (r : Nat) (L : List (Int × ByteArray × Int)) : ∀ (m i : Nat), L.length ≤ i + m → ∀ (d : Nat) (dp gr dv : Bool) (w : World), RdrAt w r L i d false dp gr dv →
    Calls Tryz.prog 45 #[.pointer (some ⟨r, 0, none⟩)] w (RdOut r L .whole d i dp gr dv w) := by
  intro m
  induction m with
  | zero =>
    intro i hm
    have hP : ∀ (d j : Nat), i ≤ j → ∀ (dp gr dv : Bool) (w : World), RdrAt w r L j d false dp gr dv → Calls Tryz.prog 48 #[.pointer (some ⟨r, 0, none⟩)] w (RdOut r L .prim d j dp gr dv w) :=
      fun d j hj dp gr dv w h => exp_primary r L d j dp gr dv w h (fun hi => by omega)
    intro d dp gr dv w h
    have hO : ∀ j, i ≤ j → ∀ (dp gr dv : Bool) (w : World), RdrAt w r L j d false dp gr dv → Calls Tryz.prog 170 #[.pointer (some ⟨r, 0, none⟩)] w (RdOut r L .opnd d j dp gr dv w) :=
      fun j hj dp gr dv w h => exp_operand r L d j dp gr dv w h (fun j' hj' w' h' => hP d j' (by omega) dp gr dv w' h')
    refine exp_whole r L d i dp gr dv w h (exp_level r L d i hO 10 (Nat.le_refl _) i (Nat.le_refl _) dp gr dv w h) ?_
    intro j hj dp gr dv w' h'
    have := h'.cells.2.2.2.2.2.2.2.2.2.2.2.2.2.1
    omega
  | succ m ih =>
    intro i hm
    have hP : ∀ (d j : Nat), i ≤ j → ∀ (dp gr dv : Bool) (w : World), RdrAt w r L j d false dp gr dv → Calls Tryz.prog 48 #[.pointer (some ⟨r, 0, none⟩)] w (RdOut r L .prim d j dp gr dv w) :=
      fun d j hj dp gr dv w h => exp_primary r L d j dp gr dv w h (fun _ dp gr dv w h => ih (j + 1) (by omega) (d + 1) dp gr dv w h)
    intro d dp gr dv w h
    have hO : ∀ j, i ≤ j → ∀ (dp gr dv : Bool) (w : World), RdrAt w r L j d false dp gr dv → Calls Tryz.prog 170 #[.pointer (some ⟨r, 0, none⟩)] w (RdOut r L .opnd d j dp gr dv w) :=
      fun j hj dp gr dv w h => exp_operand r L d j dp gr dv w h (fun j' hj' w' h' => hP d j' (by omega) dp gr dv w' h')
    refine exp_whole r L d i dp gr dv w h (exp_level r L d i hO 10 (Nat.le_refl _) i (Nat.le_refl _) dp gr dv w h) ?_
    intro j hj dp gr dv w' h'
    exact ih j (by omega) d dp gr dv w' h'
end Go.Proofs.YtiojnbhomjkkgaaGreatDoor

namespace Go.Proofs.YtiojnbhomjkkgaaGreatDoor
open Go.RowKit

set_option maxRecDepth 100000 in
set_option maxHeartbeats 8000000 in
/-- A place that is no place of the list. -/
theorem exp_read_out (L : List (Int × ByteArray × Int)) (v f : Value) (i : Int) (w : World) (hv : ∃ a c, v = .slice a L.length c) (hL : L.length ≤ 1000000000) (hi : i < 0 ∨ (L.length : Int) ≤ i) :
    Calls Tryz.prog 44 #[v, .int .i64 i, f] w fun e w' => e = .returned (.tuple #[.int .i64 0, .int .i64 0, .int .i64 2]) ∧ w = w' := by
  obtain ⟨a, c, rfl⟩ := hv
  by_cases h0 : i < 0
  · go_enter Tryz.func44, Tryz.ntmps44
    go_wp2_with fail
    go_ret3
    exact ⟨rfl, rfl⟩
  · have h1 : (L.length : Int) ≤ i := by omega
    go_enter Tryz.func44, Tryz.ntmps44
    go_wp2_with fail
    go_ret3
    exact ⟨rfl, rfl⟩
end Go.Proofs.YtiojnbhomjkkgaaGreatDoor

namespace Go.Proofs.YtiojnbhomjkkgaaGreatDoor
open Go.RowKit

/-- What read answers. -/
def outT : Option (Int × Nat × Bool × Bool × Bool) → Int × Int × Int
  | none => (0, 0, 6)
  | some (v, j, p, g, q) => if p = true then (0, 0, 3) else if g = true then (0, 0, 2) else if q = true then (0, 0, 22) else (v, j, 0)

def markT (s p g q : Bool) (u : Int) (j : Nat) : Int × Int × Int := if s = true then (0, 0, 6) else if p = true then (0, 0, 3) else if g = true then (0, 0, 2) else if q = true then (0, 0, 22) else (u, j, 0)
def mkF (s p g q : Bool) : Nat → Bool
  | 0 => s
  | 1 => p
  | 2 => g
  | _ => q
theorem keeps_end (w : World) (o : Obj) (n : Nat) : Keeps (fun _ => False) w ((w.alloc o).drewN n) := ((Keeps.refl _ w).alloc o).drewN n
theorem Keeps.cell_of {w w' : World} (k : Keeps (fun _ => False) w w') {g o : Nat} {v : Value} (h : w.cell? ⟨g, o, none⟩ = some v) (hl : g < w.heap.size) : w'.cell? ⟨g, o, none⟩ = some v :=
  (k.cell (p := ⟨g, o, none⟩) hl (fun e => e)).trans h
/-- A list of the four marks, just built. -/
theorem marks_new (w : World) (s p g q : Bool) (t : Nat) :
    ∃ (W : World) (b : Nat), (w.alloc (.cells #[.bool s, .int .i64 6, .bool p, .int .i64 3, .bool g, .int .i64 2, .bool q, .int .i64 22] t)).drew = W ∧ w.heap.size = b ∧ W.cell? ⟨b, 0, none⟩ = some (.bool s) ∧ W.cell? ⟨b, 1, none⟩ = some (.int .i64 6) ∧ W.cell? ⟨b, 2, none⟩ = some (.bool p) ∧ W.cell? ⟨b, 3, none⟩ = some (.int .i64 3) ∧ W.cell? ⟨b, 4, none⟩ = some (.bool g) ∧ W.cell? ⟨b, 5, none⟩ = some (.int .i64 2) ∧ W.cell? ⟨b, 6, none⟩ = some (.bool q) ∧ W.cell? ⟨b, 7, none⟩ = some (.int .i64 22) ∧ b < W.heap.size ∧ Keeps (fun _ => False) w W := by
  have hn := Holds.new w #[.bool s, .int .i64 6, .bool p, .int .i64 3, .bool g, .int .i64 2, .bool q, .int .i64 22] t
  exact ⟨_, _, rfl, rfl, hn.cell 0, hn.cell 1, hn.cell 2, hn.cell 3, hn.cell 4, hn.cell 5, hn.cell 6, hn.cell 7, hn.lt, ((Keeps.refl _ w).alloc _).drewN 1⟩
/-- What the marks of a reader are behind a reading. -/
theorem read_marks {r : Nat} {L : List (Int × ByteArray × Int)} {W : Wh} {d i : Nat} {w : World} {e : Ending} {w' : World} (h : RdOut r L W d i false false false w e w') :
    ∃ (u : Int) (j : Nat) (s p g q : Bool), e = .returned (.int .u32 u) ∧ 0 ≤ u ∧ u ≤ 4294967295 ∧ j ≤ 1000000000 ∧ w'.cell? ⟨r, 2, none⟩ = some (.int .i64 j) ∧ w'.cell? ⟨r, 4, none⟩ = some (.bool s) ∧ w'.cell? ⟨r, 5, none⟩ = some (.bool p) ∧ w'.cell? ⟨r, 6, none⟩ = some (.bool g) ∧ w'.cell? ⟨r, 7, none⟩ = some (.bool q) ∧ r < w'.heap.size ∧ Keeps (fun b => b = r) w w' ∧
      ∃ res, Rd L W d i res ∧ outT res = markT s p g q u j := by
  rcases h with ⟨u, j, p, g, q, hr, rfl, h0, h1, _, _, ha, hk⟩ | ⟨hr, u, j, p, g, q, rfl, h0, h1, ha, hk⟩
  · obtain ⟨c2, _, c4, c5, c6, c7, _, _, _, _, _, _, rl, hj, hL, _⟩ := ha.cells
    refine ⟨u, j, false, p, g, q, rfl, h0, h1, by omega, c2, c4, by simpa using c5, by simpa using c6, by simpa using c7, rl, hk, _, hr, ?_⟩
    simp [outT, markT]
  · obtain ⟨c2, _, c4, c5, c6, c7, _, _, _, _, _, _, rl, hj, hL, _⟩ := ha.cells
    exact ⟨u, j, true, p, g, q, rfl, h0, h1, by omega, c2, c4, c5, c6, c7, rl, hk, _, hr, rfl⟩
set_option maxRecDepth 100000 in
set_option maxHeartbeats 8000000 in
theorem exp_read_in (L : List (Int × ByteArray × Int)) (v : Value) (i : Nat) (w : World) (hv : TokAt (fun x => x < w.heap.size) w v L) (hL : L.length ≤ 1000000000) (hi : i < L.length) :
    Calls Tryz.prog 44 #[v, .int .i64 i, .func (.func 45) #[] #[]] w fun e w' => ∃ res, Rd L .whole 0 i res ∧ e = .returned (.tuple #[.int .i64 (outT res).1, .int .i64 (outT res).2.1, .int .i64 (outT res).2.2]) ∧ Below w.heap.size w w' := by
  have hiI : (i : Int) < (L.length : Int) := by omega
  have hi2 : ¬ ((L.length : Int) ≤ (i : Int)) := by omega
  have ht := exp_table w
  have HV := Lib.hid hv
  obtain ⟨a, cap, rfl, _⟩ := hv
  go_enter Tryz.func44, Tryz.ntmps44
  go_wp2_with fail
  refine ht.mono ?_
  rintro e w1 ⟨g, bs, rfl, htab, hb1, hg0, hg1, hbel⟩
  have hwb := hbel.size
  have hal : RdrAt (w1.alloc (.cells #[.slice a L.length cap, .slice (some ⟨g, 0, none⟩) 10 10, .int .i64 i, .int .i64 (0 : Nat), .bool false, .bool false, .bool false, .bool false] 132)) w1.heap.size L i 0 false false false false := by
    have k1 : Keeps (fun _ => False) w w1 := Keeps.of_fresh hbel _
    have k2 := (Keeps.refl (fun _ => False) w1).alloc (.cells #[.slice a L.length cap, .slice (some ⟨g, 0, none⟩) 10 10, .int .i64 i, .int .i64 (0 : Nat), .bool false, .bool false, .bool false, .bool false] 132)
    have ht2 := (HV.out.keeps k1 (fun _ _ e => e)).keeps k2 (fun _ _ e => e)
    obtain ⟨a', c', e1, e2, e3⟩ := ht2
    refine ⟨.slice a L.length cap, g, bs, Holds.new w1 _ _, ⟨a', c', e1, e2, fun h0 => ?_⟩, htab.keeps k2 (fun e => e) (fun _ _ e => e), by omega, fun b hb e => ?_, by omega, hL, by omega⟩
    · obtain ⟨g', o', f1, f2, f3⟩ := e3 h0
      exact ⟨g', o', f1, (by show g' ≠ w1.heap.size; omega), f3⟩
    · have := hb1 b hb; omega
  have hwc := exp_all w1.heap.size L L.length i (by omega) 0 false false false _ hal
  go_wp2_with fail
  refine (by exact hwc : Calls _ _ _ _ _).mono ?_
  rintro e w2 hout
  obtain ⟨u, j, s, p, g2, q, rfl, hu0, hu1, hj, c2, c4, c5, c6, c7, rl, hkp, hres⟩ := read_marks hout
  have hbw : w1.heap.size < w2.heap.size := rl
  obtain ⟨b, hb⟩ : ∃ b, b = w1.heap.size := ⟨_, rfl⟩
  rw [← hb] at c2 c4 c5 c6 c7 hbw rl
  have HK := Lib.hid hkp
  have HT := Lib.hid (show True from trivial)
  clear hwc hal hout hkp HT ht htab hb1 hg0 hg1 HV
  have HB := Lib.hid hbel
  have HWB := Lib.hid hwb
  clear hbel hwb
  rw [← hb]
  have HBB := Lib.hid hb
  clear hb
  go_wp2_with fail
  go_region
  obtain ⟨W3, gb, hW3, hgb, m0, m1, m2, m3, m4, m5, m6, m7, m8, mk⟩ := marks_new w2 s p g2 q 133
  rw [hW3, hgb]
  have c2' := (mk.cell (p := ⟨b, 2, none⟩) rl (fun e => e)).trans c2
  have c2l : b < W3.heap.size := Nat.lt_of_lt_of_le rl mk.size
  have HMK := Lib.hid mk
  clear mk c2 c4 c5 c6 c7 rl hbw hW3 hgb
  have HRES := Lib.hid hres
  clear hres
  go_wp2_with fail
  go_loopg [12, 51] 4 (fun f x y wr => ∃ k : Nat, y = .int .i64 (k : Int) ∧ k + f = 4 ∧ Hid (∀ j, j < k → mkF s p g2 q j = false) ∧ Hid (Keeps (fun _ => False) W3 wr))
  case atStart => exact ⟨0, rfl, rfl, Lib.hid (by intro j hj; omega), Lib.hid (Keeps.refl _ _)⟩
  case round =>
    obtain ⟨k, hy, hkf, hM, hkw⟩ := hrel
    have e0 := hkw.out.cell_of m0 m8
    have e1 := hkw.out.cell_of m1 m8
    have e2 := hkw.out.cell_of m2 m8
    have e3 := hkw.out.cell_of m3 m8
    have e4 := hkw.out.cell_of m4 m8
    have e5 := hkw.out.cell_of m5 m8
    have e6 := hkw.out.cell_of m6 m8
    have e7 := hkw.out.cell_of m7 m8
    have e8 : gb < wr.heap.size := Nat.lt_of_lt_of_le m8 hkw.out.size
    have c2w := hkw.out.cell_of c2' c2l
    have c2v : b < wr.heap.size := Nat.lt_of_lt_of_le c2l hkw.out.size
    have hk5 : k = 0 ∨ k = 1 ∨ k = 2 ∨ k = 3 ∨ k = 4 := by omega
    clear m0 m1 m2 m3 m4 m5 m6 m7 m8 c2' c2l
    rcases hk5 with rfl | rfl | rfl | rfl | rfl
    · obtain rfl : u51 = .int .i64 0 := hy
      cases s
      · go_wp2_with fail
        go_roundg (gk - 1)
        case measure => omega
        case rel =>
         refine ⟨1, rfl, by omega, Lib.hid ?_, Lib.hid ?_⟩
         · intro j hj
           rcases Nat.lt_or_ge j 0 with c | c
           · exact hM.out j c
           · obtain rfl : j = 0 := by omega
             rfl
         · exact hkw.out.alloc _
      · have hfl := hM.out
        clear hM
        have HFL := Lib.hid hfl
        clear hfl
        go_wp2_with fail
        go_quiet (fail)
        go_wp2_with fail
        go_ret3
        obtain ⟨res, hrd, hre⟩ := HRES.out
        have hv : outT res = (0, 0, 6) := by rw [hre]; simp [markT]
        have B1 : Below w.heap.size w w2 := (HB.out.alloc HWB.out _).trans (HK.out.below (by have := HWB.out; simp; omega) (fun i hi e => by have := HWB.out; omega))
        have B2 : Below w.heap.size w wr := B1.trans ((HMK.out.trans hkw.out (fun _ _ e => e)).below B1.size (fun _ _ e => e))
        exact ⟨res, hrd, by rw [hv]; rfl, B2.trans (Keeps.below (S := fun _ => False) (keeps_end wr _ _) B2.size (fun _ _ e => e))⟩
    · obtain rfl : u51 = .int .i64 1 := hy
      cases p
      · go_wp2_with fail
        go_roundg (gk - 1)
        case measure => omega
        case rel =>
         refine ⟨2, rfl, by omega, Lib.hid ?_, Lib.hid ?_⟩
         · intro j hj
           rcases Nat.lt_or_ge j 1 with c | c
           · exact hM.out j c
           · obtain rfl : j = 1 := by omega
             rfl
         · exact hkw.out.alloc _
      · have hfl := hM.out
        clear hM
        have HFL := Lib.hid hfl
        clear hfl
        go_wp2_with fail
        go_quiet (fail)
        go_wp2_with fail
        go_ret3
        obtain ⟨res, hrd, hre⟩ := HRES.out
        have f0 := HFL.out 0 (by omega)
        simp only [mkF] at f0
        have hv : outT res = (0, 0, 3) := by rw [hre]; simp [markT, f0]
        have B1 : Below w.heap.size w w2 := (HB.out.alloc HWB.out _).trans (HK.out.below (by have := HWB.out; simp; omega) (fun i hi e => by have := HWB.out; omega))
        have B2 : Below w.heap.size w wr := B1.trans ((HMK.out.trans hkw.out (fun _ _ e => e)).below B1.size (fun _ _ e => e))
        exact ⟨res, hrd, by rw [hv]; rfl, B2.trans (Keeps.below (S := fun _ => False) (keeps_end wr _ _) B2.size (fun _ _ e => e))⟩
    · obtain rfl : u51 = .int .i64 2 := hy
      cases g2
      · go_wp2_with fail
        go_roundg (gk - 1)
        case measure => omega
        case rel =>
         refine ⟨3, rfl, by omega, Lib.hid ?_, Lib.hid ?_⟩
         · intro j hj
           rcases Nat.lt_or_ge j 2 with c | c
           · exact hM.out j c
           · obtain rfl : j = 2 := by omega
             rfl
         · exact hkw.out.alloc _
      · have hfl := hM.out
        clear hM
        have HFL := Lib.hid hfl
        clear hfl
        go_wp2_with fail
        go_quiet (fail)
        go_wp2_with fail
        go_ret3
        obtain ⟨res, hrd, hre⟩ := HRES.out
        have f0 := HFL.out 0 (by omega)
        simp only [mkF] at f0
        have f1 := HFL.out 1 (by omega)
        simp only [mkF] at f1
        have hv : outT res = (0, 0, 2) := by rw [hre]; simp [markT, f0, f1]
        have B1 : Below w.heap.size w w2 := (HB.out.alloc HWB.out _).trans (HK.out.below (by have := HWB.out; simp; omega) (fun i hi e => by have := HWB.out; omega))
        have B2 : Below w.heap.size w wr := B1.trans ((HMK.out.trans hkw.out (fun _ _ e => e)).below B1.size (fun _ _ e => e))
        exact ⟨res, hrd, by rw [hv]; rfl, B2.trans (Keeps.below (S := fun _ => False) (keeps_end wr _ _) B2.size (fun _ _ e => e))⟩
    · obtain rfl : u51 = .int .i64 3 := hy
      cases q
      · go_wp2_with fail
        go_roundg (gk - 1)
        case measure => omega
        case rel =>
         refine ⟨4, rfl, by omega, Lib.hid ?_, Lib.hid ?_⟩
         · intro j hj
           rcases Nat.lt_or_ge j 3 with c | c
           · exact hM.out j c
           · obtain rfl : j = 3 := by omega
             rfl
         · exact hkw.out.alloc _
      · have hfl := hM.out
        clear hM
        have HFL := Lib.hid hfl
        clear hfl
        go_wp2_with fail
        go_quiet (fail)
        go_wp2_with fail
        go_ret3
        obtain ⟨res, hrd, hre⟩ := HRES.out
        have f0 := HFL.out 0 (by omega)
        simp only [mkF] at f0
        have f1 := HFL.out 1 (by omega)
        simp only [mkF] at f1
        have f2 := HFL.out 2 (by omega)
        simp only [mkF] at f2
        have hv : outT res = (0, 0, 22) := by rw [hre]; simp [markT, f0, f1, f2]
        have B1 : Below w.heap.size w w2 := (HB.out.alloc HWB.out _).trans (HK.out.below (by have := HWB.out; simp; omega) (fun i hi e => by have := HWB.out; omega))
        have B2 : Below w.heap.size w wr := B1.trans ((HMK.out.trans hkw.out (fun _ _ e => e)).below B1.size (fun _ _ e => e))
        exact ⟨res, hrd, by rw [hv]; rfl, B2.trans (Keeps.below (S := fun _ => False) (keeps_end wr _ _) B2.size (fun _ _ e => e))⟩
    · obtain rfl : u51 = .int .i64 4 := hy
      go_wp2_with fail
      go_quiet (fail)
      go_wp2_with fail
      go_ret3
      obtain ⟨res, hrd, hre⟩ := HRES.out
      have f0 := hM.out 0 (by omega)
      simp only [mkF] at f0
      have f1 := hM.out 1 (by omega)
      simp only [mkF] at f1
      have f2 := hM.out 2 (by omega)
      simp only [mkF] at f2
      have f3 := hM.out 3 (by omega)
      simp only [mkF] at f3
      have hv : outT res = (u, (j : Int), 0) := by rw [hre]; simp [markT, f0, f1, f2, f3]
      have B1 : Below w.heap.size w w2 := (HB.out.alloc HWB.out _).trans (HK.out.below (by have := HWB.out; simp; omega) (fun i hi e => by have := HWB.out; omega))
      have B2 : Below w.heap.size w wr := B1.trans ((HMK.out.trans hkw.out (fun _ _ e => e)).below B1.size (fun _ _ e => e))
      exact ⟨res, hrd, by rw [hv]; rfl, B2.trans (Keeps.below (S := fun _ => False) (keeps_draws wr _) B2.size (fun _ _ e => e))⟩
end Go.Proofs.YtiojnbhomjkkgaaGreatDoor

namespace Go.Proofs.YtiojnbhomjkkgaaGreatDoor
open Go.RowKit

/-- What Value leaves. -/
def ValuePostX (L : List (Int × ByteArray × Int)) (i : Int) (W : Wh) (w : World) (e : Ending) (w' : World) : Prop :=
  ∃ r : Int × Int × Int, e = .returned (.tuple #[.int .i64 r.1, .int .i64 r.2.1, .int .i64 r.2.2]) ∧ Below w.heap.size w w' ∧
    if 0 ≤ i ∧ i < L.length then ∃ res, Rd L W 0 i.toNat res ∧ r = outT res else r = (0, 0, 2)
theorem read_any (L : List (Int × ByteArray × Int)) (v : Value) (i : Int) (w : World) (hv : TokAt (fun x => x < w.heap.size) w v L) (hL : L.length ≤ 1000000000) :
    Calls Tryz.prog 44 #[v, .int .i64 i, .func (.func 45) #[] #[]] w (ValuePostX L i .whole w) := by
  by_cases hi : 0 ≤ i ∧ i < L.length
  · obtain ⟨k, rfl⟩ := Int.eq_ofNat_of_zero_le hi.1
    refine (exp_read_in L v k w hv hL (by omega)).mono ?_
    rintro e w' ⟨res, hr, he, hb⟩
    exact ⟨outT res, he, hb, by rw [if_pos hi]; exact ⟨res, hr, rfl⟩⟩
  · refine (exp_read_out L v _ i w (by obtain ⟨a, c, h, _⟩ := hv; exact ⟨a, c, h⟩) hL (by omega)).mono ?_
    rintro e w' ⟨he, rfl⟩
    exact ⟨(0, 0, 2), he, Below.refl _ _, by rw [if_neg hi]⟩
theorem exp_Value (L : List (Int × ByteArray × Int)) (v : Value) (i : Int) (w : World) (hv : TokAt (fun x => x < w.heap.size) w v L) (hL : L.length ≤ 1000000000) :
    Calls Tryz.prog 17 #[v, .int .i64 i] w (ValuePostX L i .whole w) := by
  have h := read_any L v i w hv hL
  go_enter Tryz.func17, Tryz.ntmps17
  go_wp2_with fail
  refine h.mono ?_
  rintro e w' ⟨⟨r1, r2, r3⟩, rfl, hb, hr⟩
  have HR := Lib.hid hr
  clear hr
  go_wp2_with fail
  go_ret3
  exact ⟨(r1, r2, r3), rfl, hb, HR.out⟩
end Go.Proofs.YtiojnbhomjkkgaaGreatDoor

namespace Go.Proofs.YtiojnbhomjkkgaaGreatDoor
open Go.RowKit

set_option maxRecDepth 100000 in
set_option maxHeartbeats 8000000 in
theorem exp_read_prim (L : List (Int × ByteArray × Int)) (v : Value) (i : Nat) (w : World) (hv : TokAt (fun x => x < w.heap.size) w v L) (hL : L.length ≤ 1000000000) (hi : i < L.length) :
    Calls Tryz.prog 44 #[v, .int .i64 i, .func (.func 48) #[] #[]] w fun e w' => ∃ res, Rd L .prim 0 i res ∧ e = .returned (.tuple #[.int .i64 (outT res).1, .int .i64 (outT res).2.1, .int .i64 (outT res).2.2]) ∧ Below w.heap.size w w' := by
  have hiI : (i : Int) < (L.length : Int) := by omega
  have hi2 : ¬ ((L.length : Int) ≤ (i : Int)) := by omega
  have ht := exp_table w
  have HV := Lib.hid hv
  obtain ⟨a, cap, rfl, _⟩ := hv
  go_enter Tryz.func44, Tryz.ntmps44
  go_wp2_with fail
  refine ht.mono ?_
  rintro e w1 ⟨g, bs, rfl, htab, hb1, hg0, hg1, hbel⟩
  have hwb := hbel.size
  have hal : RdrAt (w1.alloc (.cells #[.slice a L.length cap, .slice (some ⟨g, 0, none⟩) 10 10, .int .i64 i, .int .i64 (0 : Nat), .bool false, .bool false, .bool false, .bool false] 132)) w1.heap.size L i 0 false false false false := by
    have k1 : Keeps (fun _ => False) w w1 := Keeps.of_fresh hbel _
    have k2 := (Keeps.refl (fun _ => False) w1).alloc (.cells #[.slice a L.length cap, .slice (some ⟨g, 0, none⟩) 10 10, .int .i64 i, .int .i64 (0 : Nat), .bool false, .bool false, .bool false, .bool false] 132)
    have ht2 := (HV.out.keeps k1 (fun _ _ e => e)).keeps k2 (fun _ _ e => e)
    obtain ⟨a', c', e1, e2, e3⟩ := ht2
    refine ⟨.slice a L.length cap, g, bs, Holds.new w1 _ _, ⟨a', c', e1, e2, fun h0 => ?_⟩, htab.keeps k2 (fun e => e) (fun _ _ e => e), by omega, fun b hb e => ?_, by omega, hL, by omega⟩
    · obtain ⟨g', o', f1, f2, f3⟩ := e3 h0
      exact ⟨g', o', f1, (by show g' ≠ w1.heap.size; omega), f3⟩
    · have := hb1 b hb; omega
  have hwc := exp_primary w1.heap.size L 0 i false false false _ hal (fun hj dp gr dv wx hx => exp_all w1.heap.size L L.length (i + 1) (by omega) 1 dp gr dv wx hx)
  go_wp2_with fail
  refine (by exact hwc : Calls _ _ _ _ _).mono ?_
  rintro e w2 hout
  obtain ⟨u, j, s, p, g2, q, rfl, hu0, hu1, hj, c2, c4, c5, c6, c7, rl, hkp, hres⟩ := read_marks hout
  have hbw : w1.heap.size < w2.heap.size := rl
  obtain ⟨b, hb⟩ : ∃ b, b = w1.heap.size := ⟨_, rfl⟩
  rw [← hb] at c2 c4 c5 c6 c7 hbw rl
  have HK := Lib.hid hkp
  have HT := Lib.hid (show True from trivial)
  clear hwc hal hout hkp HT ht htab hb1 hg0 hg1 HV
  have HB := Lib.hid hbel
  have HWB := Lib.hid hwb
  clear hbel hwb
  rw [← hb]
  have HBB := Lib.hid hb
  clear hb
  go_wp2_with fail
  go_region
  obtain ⟨W3, gb, hW3, hgb, m0, m1, m2, m3, m4, m5, m6, m7, m8, mk⟩ := marks_new w2 s p g2 q 133
  rw [hW3, hgb]
  have c2' := (mk.cell (p := ⟨b, 2, none⟩) rl (fun e => e)).trans c2
  have c2l : b < W3.heap.size := Nat.lt_of_lt_of_le rl mk.size
  have HMK := Lib.hid mk
  clear mk c2 c4 c5 c6 c7 rl hbw hW3 hgb
  have HRES := Lib.hid hres
  clear hres
  go_wp2_with fail
  go_loopg [12, 51] 4 (fun f x y wr => ∃ k : Nat, y = .int .i64 (k : Int) ∧ k + f = 4 ∧ Hid (∀ j, j < k → mkF s p g2 q j = false) ∧ Hid (Keeps (fun _ => False) W3 wr))
  case atStart => exact ⟨0, rfl, rfl, Lib.hid (by intro j hj; omega), Lib.hid (Keeps.refl _ _)⟩
  case round =>
    obtain ⟨k, hy, hkf, hM, hkw⟩ := hrel
    have e0 := hkw.out.cell_of m0 m8
    have e1 := hkw.out.cell_of m1 m8
    have e2 := hkw.out.cell_of m2 m8
    have e3 := hkw.out.cell_of m3 m8
    have e4 := hkw.out.cell_of m4 m8
    have e5 := hkw.out.cell_of m5 m8
    have e6 := hkw.out.cell_of m6 m8
    have e7 := hkw.out.cell_of m7 m8
    have e8 : gb < wr.heap.size := Nat.lt_of_lt_of_le m8 hkw.out.size
    have c2w := hkw.out.cell_of c2' c2l
    have c2v : b < wr.heap.size := Nat.lt_of_lt_of_le c2l hkw.out.size
    have hk5 : k = 0 ∨ k = 1 ∨ k = 2 ∨ k = 3 ∨ k = 4 := by omega
    clear m0 m1 m2 m3 m4 m5 m6 m7 m8 c2' c2l
    rcases hk5 with rfl | rfl | rfl | rfl | rfl
    · obtain rfl : u51 = .int .i64 0 := hy
      cases s
      · go_wp2_with fail
        go_roundg (gk - 1)
        case measure => omega
        case rel =>
         refine ⟨1, rfl, by omega, Lib.hid ?_, Lib.hid ?_⟩
         · intro j hj
           rcases Nat.lt_or_ge j 0 with c | c
           · exact hM.out j c
           · obtain rfl : j = 0 := by omega
             rfl
         · exact hkw.out.alloc _
      · have hfl := hM.out
        clear hM
        have HFL := Lib.hid hfl
        clear hfl
        go_wp2_with fail
        go_quiet (fail)
        go_wp2_with fail
        go_ret3
        obtain ⟨res, hrd, hre⟩ := HRES.out
        have hv : outT res = (0, 0, 6) := by rw [hre]; simp [markT]
        have B1 : Below w.heap.size w w2 := (HB.out.alloc HWB.out _).trans (HK.out.below (by have := HWB.out; simp; omega) (fun i hi e => by have := HWB.out; omega))
        have B2 : Below w.heap.size w wr := B1.trans ((HMK.out.trans hkw.out (fun _ _ e => e)).below B1.size (fun _ _ e => e))
        exact ⟨res, hrd, by rw [hv]; rfl, B2.trans (Keeps.below (S := fun _ => False) (keeps_end wr _ _) B2.size (fun _ _ e => e))⟩
    · obtain rfl : u51 = .int .i64 1 := hy
      cases p
      · go_wp2_with fail
        go_roundg (gk - 1)
        case measure => omega
        case rel =>
         refine ⟨2, rfl, by omega, Lib.hid ?_, Lib.hid ?_⟩
         · intro j hj
           rcases Nat.lt_or_ge j 1 with c | c
           · exact hM.out j c
           · obtain rfl : j = 1 := by omega
             rfl
         · exact hkw.out.alloc _
      · have hfl := hM.out
        clear hM
        have HFL := Lib.hid hfl
        clear hfl
        go_wp2_with fail
        go_quiet (fail)
        go_wp2_with fail
        go_ret3
        obtain ⟨res, hrd, hre⟩ := HRES.out
        have f0 := HFL.out 0 (by omega)
        simp only [mkF] at f0
        have hv : outT res = (0, 0, 3) := by rw [hre]; simp [markT, f0]
        have B1 : Below w.heap.size w w2 := (HB.out.alloc HWB.out _).trans (HK.out.below (by have := HWB.out; simp; omega) (fun i hi e => by have := HWB.out; omega))
        have B2 : Below w.heap.size w wr := B1.trans ((HMK.out.trans hkw.out (fun _ _ e => e)).below B1.size (fun _ _ e => e))
        exact ⟨res, hrd, by rw [hv]; rfl, B2.trans (Keeps.below (S := fun _ => False) (keeps_end wr _ _) B2.size (fun _ _ e => e))⟩
    · obtain rfl : u51 = .int .i64 2 := hy
      cases g2
      · go_wp2_with fail
        go_roundg (gk - 1)
        case measure => omega
        case rel =>
         refine ⟨3, rfl, by omega, Lib.hid ?_, Lib.hid ?_⟩
         · intro j hj
           rcases Nat.lt_or_ge j 2 with c | c
           · exact hM.out j c
           · obtain rfl : j = 2 := by omega
             rfl
         · exact hkw.out.alloc _
      · have hfl := hM.out
        clear hM
        have HFL := Lib.hid hfl
        clear hfl
        go_wp2_with fail
        go_quiet (fail)
        go_wp2_with fail
        go_ret3
        obtain ⟨res, hrd, hre⟩ := HRES.out
        have f0 := HFL.out 0 (by omega)
        simp only [mkF] at f0
        have f1 := HFL.out 1 (by omega)
        simp only [mkF] at f1
        have hv : outT res = (0, 0, 2) := by rw [hre]; simp [markT, f0, f1]
        have B1 : Below w.heap.size w w2 := (HB.out.alloc HWB.out _).trans (HK.out.below (by have := HWB.out; simp; omega) (fun i hi e => by have := HWB.out; omega))
        have B2 : Below w.heap.size w wr := B1.trans ((HMK.out.trans hkw.out (fun _ _ e => e)).below B1.size (fun _ _ e => e))
        exact ⟨res, hrd, by rw [hv]; rfl, B2.trans (Keeps.below (S := fun _ => False) (keeps_end wr _ _) B2.size (fun _ _ e => e))⟩
    · obtain rfl : u51 = .int .i64 3 := hy
      cases q
      · go_wp2_with fail
        go_roundg (gk - 1)
        case measure => omega
        case rel =>
         refine ⟨4, rfl, by omega, Lib.hid ?_, Lib.hid ?_⟩
         · intro j hj
           rcases Nat.lt_or_ge j 3 with c | c
           · exact hM.out j c
           · obtain rfl : j = 3 := by omega
             rfl
         · exact hkw.out.alloc _
      · have hfl := hM.out
        clear hM
        have HFL := Lib.hid hfl
        clear hfl
        go_wp2_with fail
        go_quiet (fail)
        go_wp2_with fail
        go_ret3
        obtain ⟨res, hrd, hre⟩ := HRES.out
        have f0 := HFL.out 0 (by omega)
        simp only [mkF] at f0
        have f1 := HFL.out 1 (by omega)
        simp only [mkF] at f1
        have f2 := HFL.out 2 (by omega)
        simp only [mkF] at f2
        have hv : outT res = (0, 0, 22) := by rw [hre]; simp [markT, f0, f1, f2]
        have B1 : Below w.heap.size w w2 := (HB.out.alloc HWB.out _).trans (HK.out.below (by have := HWB.out; simp; omega) (fun i hi e => by have := HWB.out; omega))
        have B2 : Below w.heap.size w wr := B1.trans ((HMK.out.trans hkw.out (fun _ _ e => e)).below B1.size (fun _ _ e => e))
        exact ⟨res, hrd, by rw [hv]; rfl, B2.trans (Keeps.below (S := fun _ => False) (keeps_end wr _ _) B2.size (fun _ _ e => e))⟩
    · obtain rfl : u51 = .int .i64 4 := hy
      go_wp2_with fail
      go_quiet (fail)
      go_wp2_with fail
      go_ret3
      obtain ⟨res, hrd, hre⟩ := HRES.out
      have f0 := hM.out 0 (by omega)
      simp only [mkF] at f0
      have f1 := hM.out 1 (by omega)
      simp only [mkF] at f1
      have f2 := hM.out 2 (by omega)
      simp only [mkF] at f2
      have f3 := hM.out 3 (by omega)
      simp only [mkF] at f3
      have hv : outT res = (u, (j : Int), 0) := by rw [hre]; simp [markT, f0, f1, f2, f3]
      have B1 : Below w.heap.size w w2 := (HB.out.alloc HWB.out _).trans (HK.out.below (by have := HWB.out; simp; omega) (fun i hi e => by have := HWB.out; omega))
      have B2 : Below w.heap.size w wr := B1.trans ((HMK.out.trans hkw.out (fun _ _ e => e)).below B1.size (fun _ _ e => e))
      exact ⟨res, hrd, by rw [hv]; rfl, B2.trans (Keeps.below (S := fun _ => False) (keeps_draws wr _) B2.size (fun _ _ e => e))⟩
end Go.Proofs.YtiojnbhomjkkgaaGreatDoor
