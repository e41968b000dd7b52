/- The law IncludeLoads: for every input the call returns true and leaves its arguments as they were. Conditions: none. -/
import Derived.Test.YtofhcgbihonckaaGreatRows
import Derived.WalkKit
import Derived.ProofKit
import Derived.OpenShut
import Derived.ShutString
import Derived.ChangeOld
import Derived.Below
import Derived.HandedShaped
import Derived.Shelf.Vars
import Derived.Test.YtofhcgbihonckaaGreatZ20
import Derived.Test.YtofhcgbihonckaaGreatZ17
import Derived.Test.YtofhcgbihonckaaGreatZ35
namespace Go.Proofs.YtofhcgbihonckaaGreat.includeLoads
open Go.ChangeShapes Go.WideShapes Go.ChangeAt Go.RowKit
open Go.ChangeMaps (open_string shut_string)
set_option linter.unusedVariables false

theorem own : ownKnob Tryz.prog.godebug = none := by kernel_rfl
theorem laidOut : laidOutB Tryz.prog = true := by kernel_rfl
/-- A slice of integers that came in. -/
def IsRow (k : IntKind) (w : World) (a : Option Addr) (len cap : Nat) (zs : List Int) : Prop :=
  (a = none ∧ len = 0 ∧ cap = 0 ∧ zs = []) ∨
  ∃ x, a = some x ∧ len ≤ cap ∧ cap ≤ maxLen ∧ zs.length = cap ∧ (∀ i, i < zs.length → w.cell? (x.add i) = some (.int k (zs.getD i 0))) ∧ ∀ n ∈ zs, (Lit.int k n).wf = true

theorem walk (a0 : Option Addr) (len0 cap0 : Nat) (z0 : List Int) (a1 : Option Addr) (c1 : Nat) (T1 : List Qoa) (a2 : ByteArray) (w : World) (w0 : IsRow .i64 w a0 len0 cap0 z0) (w1 : QZa w (.slice a1 T1.length c1) T1 ∧ ∀ f ∈ T1, f.text.size ≤ maxLen ∧ f.name.size ≤ maxLen) (w2 : a2.size ≤ maxLen) (lay : QFf w) :
    Calls Tryz.prog 6 #[.slice a0 len0 cap0, .slice a1 T1.length c1, .string a2] w fun e w' => e = .returned (.bool true) ∧ Below w.heap.size w w' :=
  Qpf a0 len0 cap0 a1 c1 T1 a2 w (Q9e w0).1 (Q9e w0).2.1 (Q9e w0).2.2.1 (Q9e w0).2.2.2 w1 w2 lay

set_option maxRecDepth 100000 in
theorem lifted (os : Os) (started : os.Started) (H : Type) (enc : TypeId × Value → H) :
    ReturnsInHanded {} Tryz.checked os 6 .any (Rows.includeLoadsSpec.pre6 enc Tryz.prog Tryz.f6 Rows.includeLoadsRow.domain false) (Rows.includeLoadsSpec.post enc Tryz.prog Tryz.f6 false true false false) := by
  refine returnsInHanded_of_change_shaped (C := Tryz.checked) own started (by kernel_rfl) Tryz.func6
    (ChangeSpec.witness6 (enc := enc) (C := Tryz.checked) false ⟨#[], #[.slice none 0 0, .slice none 0 0, .string ByteArray.empty], []⟩ 8 (by kernel_rfl) (by kernel_rfl) (by kernel_rfl) (by kernel_rfl)) ?_
  intro W base args ds gs before d9 hW hcnd hrch lA _
  have dG : ∀ (j : Nat) t v, Tryz.f6.params[j]? = some t → args[j]? = some v → Value.okWide Tryz.prog W .any base t v := d9
  have hW' := hW
  obtain ⟨p, q, JM, hV, rfl, qw, vK⟩ := hW
  have hA : DataW.TrodAll enc Tryz.prog W 0 (fun _ => true) true Tryz.f6.params.toList args.toList ds p := JM
  rw [Tryz.params6] at hA dG
  obtain ⟨v0, vs0, d0, ds0, p0, q0, hargs, rfl, rfl, h0, r0⟩ := trodAll_cons hA
  obtain ⟨v1, vs1, d1, ds1, p1, q1, rfl, rfl, rfl, h1, r1⟩ := trodAll_cons r0
  obtain ⟨v2, vs2, d2, ds2, p2, q2, rfl, rfl, rfl, h2, r2⟩ := trodAll_cons r1
  obtain ⟨rfl, rfl, rfl⟩ := trodAll_nil r2
  obtain rfl : args = #[v0, v1, v2] := by cases args; simp_all
  obtain ⟨rfl, rfl⟩ := trodVars_none hV
  obtain ⟨a0, len0, cap0, rfl⟩ := okWide_slice Tryz.underlying22 (dG 0 22 v0 rfl rfl)
  have k0 := h0
  have lt0 : ∀ x ∈ p0, x.block < W.heap.size := by obtain ⟨m, hm⟩ := k0; exact DataW.trod_lt m _ _ _ hm
  obtain ⟨z0, w0⟩ : ∃ zs, IsRow .i64 W a0 len0 cap0 zs := by
    obtain ⟨fuel, hf⟩ := h0
    rcases open_ints Tryz.underlying22 Tryz.underlying3 (by kernel_rfl) hf with ⟨Hx, _⟩ | ⟨x, l, c, zs, Hx, _, hl, hm, hz, _, G8, hwz⟩
    · simp [Value.cells] at Hx
      obtain ⟨rfl, rfl, rfl⟩ := Hx
      exact ⟨[], .inl ⟨rfl, rfl, rfl, rfl⟩⟩
    · simp [Value.cells] at Hx
      obtain ⟨rfl, rfl, rfl⟩ := Hx
      exact ⟨zs, .inr ⟨_, rfl, hl, hm, by simpa using hz, G8, hwz⟩⟩
  obtain ⟨a1, len1, cap1, rfl⟩ := okWide_slice Tryz.underlying42 (dG 1 42 v1 rfl rfl)
  have k1 := h1
  have lt1 : ∀ x ∈ p1, x.block < W.heap.size := by obtain ⟨m, hm⟩ := k1; exact DataW.trod_lt m _ _ _ hm
  obtain ⟨T1, w1⟩ := Qcm (by simp [Value.cells]) h1
  obtain ⟨_, _, eq1, _⟩ := w1.1
  cases eq1
  obtain ⟨a2, rfl, rfl, rfl, w2⟩ := open_string Tryz.underlying9 (dG 2 9 v2 rfl rfl) h2
  clear JM d9
  have lay : QFf W := QMq lA
  refine (walk a0 len0 cap0 z0 a1 cap1 T1 a2 W w0 w1 w2 lay).mono fun e W' ⟨he, bel⟩ => ?_
  subst he
  exact ⟨_, rfl, _, _, _, [], _, [], hW', trodAll_mk1 (shut_bool Tryz.underlying4 _), (trodAll_cons_mk (Below.trod laidOut (by kernel_rfl) (of_decide_eq_true (by kernel_rfl)) k0 bel lt0) (trodAll_cons_mk (Below.trod laidOut (by kernel_rfl) (of_decide_eq_true (by kernel_rfl)) k1 bel lt1) (trodAll_cons_mk (shut_string Tryz.underlying9 w2) trodAll_mk0))), rfl, bel.frame _, fun h => by cases h⟩

theorem over : Rows.includeLoadsRow.holds Tryz.pinned (OpenSpec.ofChange Rows.includeLoadsSpec) :=
  OpenClaim.holds_of_wide 6 Tryz.f6 rfl rfl rfl rfl rfl rfl rfl ⟨rfl, rfl, rfl, rfl, rfl⟩ rfl rfl rfl rfl rfl (by kernel_rfl) Tryz.func6 (by kernel_rfl)
    (of_decide_eq_true (by kernel_rfl)) (by unfold Func.isWrapper; first | (rw [if_pos (by decide +kernel)]; kernel_rfl) | (rw [if_neg (by decide +kernel)]; exact ⟨rfl, rfl⟩))
    (fun os started H enc _ => lifted os started H enc)

theorem proved : Rows.IncludeLoadsSaid := over
end Go.Proofs.YtofhcgbihonckaaGreat.includeLoads
