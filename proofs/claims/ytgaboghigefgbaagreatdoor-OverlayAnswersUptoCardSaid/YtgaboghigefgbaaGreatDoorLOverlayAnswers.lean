/- The law OverlayAnswers: for every input of bounded bulk the call returns true and leaves its arguments as they were. Conditions: the statement's own bound. -/
import Derived.ProofKit
import Derived.OpenShut
import Derived.ShutString
import Derived.ChangeOld
import Derived.Below
import Derived.HandedShaped
import Derived.Deep.DeepHandedRow
import Derived.Test.YtgaboghigefgbaaGreatDoorZ4
import Derived.Test.YtgaboghigefgbaaGreatDoorZ11
import Derived.Test.YtgaboghigefgbaaGreatDoorTie
import Derived.Test.YtgaboghigefgbaaGreatDoorCards
import Derived.SevenTiedAt
import Derived.Test.YtgaboghigefgbaaGreatDoorZ51
namespace Go.Proofs.YtgaboghigefgbaaGreatDoor.overlayAnswers
open Go.ChangeShapes Go.WideShapes Go.ChangeAt Go.RowKit
open Go.ChangeMaps (open_string shut_string)
set_option linter.unusedVariables false

theorem own : ownKnob Tryz.prog.godebug = none := by kernel_rfl
theorem laidOut : laidOutB Tryz.prog = true := by kernel_rfl
/-- A slice of integers that came in. -/
def IsRow (k : IntKind) (w : World) (a : Option Addr) (len cap : Nat) (zs : List Int) : Prop :=
  (a = none ∧ len = 0 ∧ cap = 0 ∧ zs = []) ∨
  ∃ x, a = some x ∧ len ≤ cap ∧ cap ≤ maxLen ∧ zs.length = cap ∧ (∀ i, i < zs.length → w.cell? (x.add i) = some (.int k (zs.getD i 0))) ∧ ∀ n ∈ zs, (Lit.int k n).wf = true

theorem walk (a0 : Option Addr) (len0 cap0 : Nat) (z0 : List Int) (s1 : ByteArray) (a1 : Option Addr) (c1 : Nat) (L1 : List Qga) (a2 : Option Addr) (c2 : Nat) (T2 : List Qba) (w : World) (w0 : IsRow .i64 w a0 len0 cap0 z0) (w1 : QFa w (.slice a1 L1.length c1) L1 ∧ s1.size ≤ 2000000 ∧ Qyb L1) (w2 : Qoa (fun g => g < w.heap.size) w (.slice a2 T2.length c2) T2) (lay : Qah w) :
    Calls Tryz.prog 6 #[.slice a0 len0 cap0, .agg #[.string s1, .slice a1 L1.length c1], .agg #[.slice a2 T2.length c2]] w fun e w' => e = .returned (.bool true) ∧ Below w.heap.size w w' :=
  QEf a0 len0 cap0 s1 a1 c1 L1 a2 c2 T2 w (Qeg w0).1 (Qeg w0).2.1 (Qeg w0).2.2.1 (Qeg w0).2.2.2 w1.1 w1.2.1 w1.2.2 w2 lay

theorem reads (os : Os) {H : Type} (enc : TypeId × Value → H) : ∃ places, DataW.whole enc Tryz.prog ((Q9s os).forCall (fun _ _ => 0) ⟨#[], #[.slice none 0 0, .agg #[.string ByteArray.empty, .slice none 0 0], .agg #[.slice none 0 0]], []⟩).memory Tryz.f6.params.toList Rows.overlayAnswersSpec.vars false (#[.slice none 0 0, .agg #[.string ByteArray.empty, .slice none 0 0], .agg #[.slice none 0 0]] : Array Value).toList 8 = some ([.nil, .agg [.lit (.string []), .nil], .agg [.nil]], [], places) :=
  ⟨[], by kernel_rfl⟩
theorem Qbv (os : Os) : laidMet Tryz.prog Rows.overlayAnswersUptoRow.laid ((Q9s os).forCall (fun _ _ => 0) ⟨#[], #[.slice none 0 0, .agg #[.string ByteArray.empty, .slice none 0 0], .agg #[.slice none 0 0]], []⟩).memory := laidMet_of_run' 8 (by kernel_rfl) (by kernel_rfl)

set_option maxRecDepth 100000 in
theorem QXn (os : Os) (started : os.Started) (H : Type) (enc : TypeId × Value → H) (F : Stop.Interp) :
    ReturnsInHanded {} Tryz.checked os 6 .any ((Rows.OpenSpec.upto Rows.overlayAnswersSpec).preRow enc Tryz.prog Tryz.f6 Rows.overlayAnswersUptoRow.domain false Rows.overlayAnswersUptoRow.laid) (((Rows.OpenSpec.upto Rows.overlayAnswersSpec).at F).post enc Tryz.prog Tryz.f6 false true false false) := by
  obtain ⟨places, hx⟩ := reads os enc
  refine returnsInHanded_of_row (C := Tryz.checked) (s := (Rows.OpenSpec.upto Rows.overlayAnswersSpec)) own started (by kernel_rfl) Tryz.func6
    (witness_row_at (enc := enc) (C := Tryz.checked) false (Q9s os) #[.slice none 0 0, .agg #[.string ByteArray.empty, .slice none 0 0], .agg #[.slice none 0 0]] rfl (by kernel_rfl) (by kernel_rfl) (by kernel_rfl)
      (OpenSpec.preRow_of_cond 8 hx (by kernel_rfl) (fun k hk => by cases hk; kernel_rfl) (by kernel_rfl) (Qbv os))) ?_
  intro W base args ds gs before eW hW hcnd dz hrch hL jT _
  have Gg : ∀ (j : Nat) t v, Tryz.f6.params[j]? = some t → args[j]? = some v → Value.okWide Tryz.prog W .any base t v := eW
  have hW' := hW
  obtain ⟨p, q, ku, hV, rfl, lw, ja⟩ := hW
  have hA : DataW.TrodAll enc Tryz.prog W 0 (fun _ => true) true Tryz.f6.params.toList args.toList ds p := ku
  rw [Tryz.params6] at hA Gg
  obtain ⟨v0, vs0, d0, ds0, p0, q0, hargs, rfl, rfl, h0, r0⟩ := trodAll_cons hA
  obtain ⟨v1, vs1, d1, ds1, p1, q1, rfl, rfl, rfl, h1, r1⟩ := trodAll_cons r0
  obtain ⟨v2, vs2, d2, ds2, p2, q2, rfl, rfl, rfl, h2, r2⟩ := trodAll_cons r1
  obtain ⟨rfl, rfl, rfl⟩ := trodAll_nil r2
  obtain rfl : args = #[v0, v1, v2] := by cases args; simp_all
  obtain ⟨rfl, rfl⟩ := trodVars_none hV
  have cY : Rows.uptoBulkAll [d0, d1, d2] ≤ 1048576 := of_decide_eq_true (dz _ rfl)
  obtain ⟨a0, len0, cap0, rfl⟩ := okWide_slice Tryz.underlying22 (Gg 0 22 v0 rfl rfl)
  have k0 := h0
  have lt0 : ∀ x ∈ p0, x.block < W.heap.size := by obtain ⟨m, hm⟩ := k0; exact DataW.trod_lt m _ _ _ hm
  obtain ⟨z0, w0⟩ : ∃ zs, IsRow .i64 W a0 len0 cap0 zs := by
    obtain ⟨fuel, hf⟩ := h0
    rcases open_ints Tryz.underlying22 Tryz.underlying3 (by kernel_rfl) hf with ⟨Hw, _⟩ | ⟨x, l, c, zs, Hw, _, hl, hm, hz, _, gB, hwz⟩
    · simp [Value.cells] at Hw
      obtain ⟨rfl, rfl, rfl⟩ := Hw
      exact ⟨[], .inl ⟨rfl, rfl, rfl, rfl⟩⟩
    · simp [Value.cells] at Hw
      obtain ⟨rfl, rfl, rfl⟩ := Hw
      exact ⟨zs, .inr ⟨_, rfl, hl, hm, by simpa using hz, gB, hwz⟩⟩
  have k1 := h1
  have lt1 : ∀ x ∈ p1, x.block < W.heap.size := by obtain ⟨m, hm⟩ := k1; exact DataW.trod_lt m _ _ _ hm
  obtain ⟨s1, a1, c1, L1, rfl, e1, b1, bs1⟩ := QTk (Gg 1 31 v1 rfl rfl) h1
  have Gy := Qfk (d := d1) (l := [d0, d1, d2]) (by simp)
  have w1 : QFa W (.slice a1 L1.length c1) L1 ∧ s1.size ≤ 2000000 ∧ Qyb L1 := ⟨e1, by omega, fun x hx => by have := bs1 x hx; omega⟩
  have k2 := h2
  have lt2 : ∀ x ∈ p2, x.block < W.heap.size := by obtain ⟨m, hm⟩ := k2; exact DataW.trod_lt m _ _ _ hm
  obtain ⟨a2, c2, T2, rfl, w2⟩ := QYq (Gg 2 27 v2 rfl rfl) h2
  clear ku eW
  have lay : Qah W := Q3t jT
  refine (walk a0 len0 cap0 z0 s1 a1 c1 L1 a2 c2 T2 W w0 w1 w2 lay).mono fun e W' ⟨he, bel⟩ => ?_
  subst he
  exact ⟨_, rfl, _, _, _, [], _, [], hW', trodAll_mk1 (shut_bool Tryz.underlying4 _), (trodAll_cons_mk (Below.trod laidOut (by kernel_rfl) (of_decide_eq_true (by kernel_rfl)) k0 bel lt0) (trodAll_cons_mk (Below.trod laidOut (by kernel_rfl) (of_decide_eq_true (by kernel_rfl)) k1 bel lt1) (trodAll_cons_mk (Below.trod laidOut (by kernel_rfl) (of_decide_eq_true (by kernel_rfl)) k2 bel lt2) trodAll_mk0))), rfl, bel.frame _, fun h => by cases h⟩

theorem Qls : Rows.OverlayAnswersUptoSaid :=
  OpenClaim.holds_of_cond 6 Tryz.f6 rfl rfl rfl rfl rfl rfl rfl ⟨rfl, rfl, rfl, rfl, rfl⟩ rfl rfl rfl rfl rfl (by kernel_rfl) Tryz.func6 (by kernel_rfl)
    (of_decide_eq_true (by kernel_rfl)) (by unfold Func.isWrapper; first | (rw [if_pos (by decide +kernel)]; kernel_rfl) | (rw [if_neg (by decide +kernel)]; exact ⟨rfl, rfl⟩))
    (fun os started H enc _ F => by rw [OpenClaim.pre_eq_preRow]; exact QXn os started H enc F)

/-- No parameter wants a stand-in; the program's own looks are off. -/
theorem plain (f : FuncId) (fn : Func) (hf : Tryz.pinned.checked.prog.funcNamed "bringup/bringuplaw13.OverlayAnswers" = some f) (xZ : Tryz.pinned.checked.prog.funcs[f]? = some fn) :
    false = Tryz.pinned.checked.prog.looks [] ∧ ∀ (j : Nat) t, fn.params[j]? = some t → Tryz.pinned.checked.prog.wantsStandIn t = false := by
  obtain rfl : f = 6 := Option.some.inj ((show Tryz.prog.funcNamed "bringup/bringuplaw13.OverlayAnswers" = some 6 by kernel_rfl).symm.trans hf) |>.symm
  obtain rfl : fn = Tryz.f6 := (Option.some.inj (Tryz.func6.symm.trans xZ)).symm
  refine ⟨by kernel_rfl, fun j t ht => ?_⟩
  rw [Tryz.params6] at ht
  have Ha : ∀ t ∈ ([22, 31, 27] : List TypeId), Tryz.prog.wantsStandIn t = false := by
    intro t ht
    simp only [List.mem_cons, List.not_mem_nil, or_false] at ht
    rcases ht with rfl | rfl | rfl
    all_goals kernel_rfl
  exact Ha t (List.mem_of_getElem? (by simpa using ht))
/-- The card of the second form. -/
theorem card : Rows.OverlayAnswersUptoCardSaid :=
  Claim7.holds_tied_plain_at .later [] _ _ _ _ Qls (fun _ h => by cases h) (by kernel_rfl) (fun _ h => by cases h) overlayAnswersUpto_row_tie rfl ⟨rfl, rfl⟩ (by kernel_rfl) rfl plain (by kernel_rfl)
end Go.Proofs.YtgaboghigefgbaaGreatDoor.overlayAnswers
