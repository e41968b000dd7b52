/- The law OverlayTwice: for every input the call returns true and leaves its arguments as they were. Conditions: none. -/
import Derived.Test.YtgaboghigefgbaaGreatDoorRows
import Derived.WalkKit
import Derived.ProofKit
import Derived.OpenShut
import Derived.ShutString
import Derived.ChangeOld
import Derived.Below
import Derived.HandedShaped
import Derived.Shelf.Vars
import Derived.Test.YtgaboghigefgbaaGreatDoorZ8
import Derived.Test.YtgaboghigefgbaaGreatDoorZ9
import Derived.Test.YtgaboghigefgbaaGreatDoorTie
import Derived.Test.YtgaboghigefgbaaGreatDoorCards
import Derived.SevenTiedAt
import Derived.Test.YtgaboghigefgbaaGreatDoorZ54
namespace Go.Proofs.YtgaboghigefgbaaGreatDoor.overlayTwice
open Go.ChangeShapes Go.WideShapes Go.ChangeAt Go.RowKit
open Go.ChangeMaps (open_string shut_string)
set_option linter.unusedVariables false

theorem own : ownKnob Tryz.prog.godebug = none := by kernel_rfl
theorem laidOut : laidOutB Tryz.prog = true := by kernel_rfl
/-- A slice of integers that came in. -/
def IsRow (k : IntKind) (w : World) (a : Option Addr) (len cap : Nat) (zs : List Int) : Prop :=
  (a = none ∧ len = 0 ∧ cap = 0 ∧ zs = []) ∨
  ∃ x, a = some x ∧ len ≤ cap ∧ cap ≤ maxLen ∧ zs.length = cap ∧ (∀ i, i < zs.length → w.cell? (x.add i) = some (.int k (zs.getD i 0))) ∧ ∀ n ∈ zs, (Lit.int k n).wf = true

theorem walk (a0 : Option Addr) (len0 cap0 : Nat) (z0 : List Int) (w : World) (w0 : IsRow .i64 w a0 len0 cap0 z0) (lay : Qog w) :
    Calls Tryz.prog 3 #[.slice a0 len0 cap0] w fun e w' => e = .returned (.bool true) ∧ Below w.heap.size w w' :=
  QAg a0 len0 cap0 w (QVb w0).1 (QVb w0).2.1 (QVb w0).2.2.1 (QVb w0).2.2.2 lay

set_option maxRecDepth 100000 in
theorem lifted (os : Os) (started : os.Started) (H : Type) (enc : TypeId × Value → H) :
    ReturnsInHanded {} Tryz.checked os 3 .any (fun w args => (Rows.overlayTwiceSpec.pre enc Tryz.prog Tryz.f3 [] false w args ∧ laidMetH Tryz.prog Qwi w) ∧ sizedMet enc Tryz.prog Tryz.f3 (OpenSpec.ofChange Rows.overlayTwiceSpec) false w args) (Rows.overlayTwiceSpec.post enc Tryz.prog Tryz.f3 false true false false) := by
  refine returnsInHanded_laid_shaped (C := Tryz.checked) (X := fun w _ => laidMetH Tryz.prog Qwi w) (fun _ _ _ hh h => h.of_heap hh) own started (by kernel_rfl) Tryz.func3
    (ChangeSpec.witness_shaped (enc := enc) (C := Tryz.checked) (os := os) (X := fun w _ => laidMetH Tryz.prog Qwi w) false (Qfr os) #[.slice none 0 0] 8 rfl (World.shaped_of_RefB (by kernel_rfl) (by kernel_rfl)) (by kernel_rfl) (by kernel_rfl) (by kernel_rfl) (Qmj os _)) ?_
  intro W base args ds gs before KT hW rM tY hL M2 _
  have Gc : ∀ (j : Nat) t v, Tryz.f3.params[j]? = some t → args[j]? = some v → Value.okWide Tryz.prog W .any base t v := KT
  have hW' := hW
  obtain ⟨p, q, GJ, hV, rfl, pC, mi⟩ := hW
  have hA : DataW.TrodAll enc Tryz.prog W 0 (fun _ => true) true Tryz.f3.params.toList args.toList ds p := GJ
  rw [Tryz.params3] at hA Gc
  obtain ⟨v0, vs0, d0, ds0, p0, q0, ij, rfl, rfl, h0, r0⟩ := trodAll_cons hA
  obtain ⟨rfl, rfl, rfl⟩ := trodAll_nil r0
  obtain rfl : args = #[v0] := by cases args; simp_all
  obtain ⟨rfl, rfl⟩ := trodVars_none hV
  obtain ⟨a0, len0, cap0, rfl⟩ := okWide_slice Tryz.underlying22 (Gc 0 22 v0 rfl rfl)
  have k0 := h0
  have lt0 : ∀ x ∈ p0, x.block < W.heap.size := by obtain ⟨m, hm⟩ := k0; exact DataW.trod_lt m _ _ _ hm
  obtain ⟨z0, w0⟩ : ∃ zs, IsRow .i64 W a0 len0 cap0 zs := by
    obtain ⟨fuel, hf⟩ := h0
    rcases open_ints Tryz.underlying22 Tryz.underlying3 (by kernel_rfl) hf with ⟨H7, _⟩ | ⟨x, l, c, zs, H7, _, hl, hm, hz, _, gE, hwz⟩
    · simp [Value.cells] at H7
      obtain ⟨rfl, rfl, rfl⟩ := H7
      exact ⟨[], .inl ⟨rfl, rfl, rfl, rfl⟩⟩
    · simp [Value.cells] at H7
      obtain ⟨rfl, rfl, rfl⟩ := H7
      exact ⟨zs, .inr ⟨_, rfl, hl, hm, by simpa using hz, gE, hwz⟩⟩
  clear GJ KT
  have lay : Qog W := QBp M2
  refine (walk a0 len0 cap0 z0 W w0 lay).mono fun e W' ⟨he, bel⟩ => ?_
  subst he
  exact ⟨_, rfl, _, _, _, [], _, [], hW', trodAll_mk1 (shut_bool Tryz.underlying4 _), (trodAll_cons_mk (Below.trod laidOut (by kernel_rfl) (of_decide_eq_true (by kernel_rfl)) k0 bel lt0) trodAll_mk0), rfl, bel.frame _, fun h => by cases h⟩

theorem over : Rows.overlayTwiceRow.holds Tryz.pinned (OpenSpec.ofChange Rows.overlayTwiceSpec) :=
  OpenClaim.holds_of_wide 3 Tryz.f3 rfl rfl rfl rfl rfl rfl rfl ⟨rfl, rfl, rfl, rfl, rfl⟩ rfl rfl rfl rfl rfl (by kernel_rfl) Tryz.func3 (by kernel_rfl)
    (of_decide_eq_true (by kernel_rfl)) (by unfold Func.isWrapper; first | (rw [if_pos (by decide +kernel)]; kernel_rfl) | (rw [if_neg (by decide +kernel)]; exact ⟨rfl, rfl⟩))
    (fun os started H enc _ => lifted os started H enc)

theorem proved : Rows.OverlayTwiceSaid := over

/-- The tied card. -/
theorem card : Rows.OverlayTwiceCardSaid :=
  Claim7.holds_tied_plain_at .later [] [.data, .pinned] true (true, "a82293852100c7e3c824076add4aa70964aecafacbde85873568373541b9ef2a") false
    proved (fun _ h => by cases h) (by kernel_rfl) (fun _ h => by cases h) overlayTwice_row_tie rfl ⟨rfl, rfl⟩ (by kernel_rfl) (by kernel_rfl)
    (fun f fn hf iv => by
      obtain rfl : f = 3 := Option.some.inj ((show Tryz.prog.funcNamed "bringup/bringuplaw13.OverlayTwice" = some 3 by kernel_rfl).symm.trans hf) |>.symm
      obtain rfl : fn = Tryz.f3 := (Option.some.inj (Tryz.func3.symm.trans iv)).symm
      exact ⟨by kernel_rfl, fun j t ht => by
        rw [Tryz.params3] at ht
        have Ha : ∀ t ∈ ([22] : List TypeId), Tryz.prog.wantsStandIn t = false := by
          intro t ht
          simp only [List.mem_cons, List.not_mem_nil, or_false] at ht
          rcases ht with rfl
          all_goals kernel_rfl
        exact Ha t (List.mem_of_getElem? (by simpa using ht))⟩)
    (by kernel_rfl)
end Go.Proofs.YtgaboghigefgbaaGreatDoor.overlayTwice
