/- Contracts of tree: the limits that Check asks of properties. -/
import Derived.Test.YtjfkjnakmmkkiaaTreA
namespace Go.Proofs.Ytjfkjnakmmkkiaa
open Go.RowKit

def bigB (p : PropT) : Bool := decide (256 < p.value.size)

set_option maxHeartbeats 400000 in
theorem tree_big (p : PropT) (w : World) (hs : p.value.size ≤ 9223372036854775807) :
    Calls Try.prog 73 #[.agg #[.string p.name, .string p.value]] w fun e w' => e = .returned (.bool (bigB p)) ∧ Below w.heap.size w w' := by
  go_enter Try.func73, Try.ntmps73
  go_wp2_with fail
  go_ret
  exact ⟨ret_bool (by unfold bigB; rw [Bool.eq_iff_iff]; simp <;> omega), (Below.refl _ _).alloc (Nat.le_refl _) _⟩

theorem enters_big : ∀ args w, (callFunc 73 args).run Try.prog w = .ok (.enter 73 args) w := enters_of Try.func73 (by kernel_rfl) rfl

/-- The place of the first that is found, or -1. -/
def FindPost (p : PropT → Bool) (ps : List PropT) (w : World) (e : Ending) (w' : World) : Prop := ∃ r : Int, e = .returned (.int .i64 r) ∧ decide (0 ≤ r) = ps.any p ∧ Below w.heap.size w w'

set_option maxHeartbeats 800000 in
theorem props_IndexFunc (R : Nat → Prop) (v : Value) (ps : List PropT) (w : World) (hP : PropsIn R w v ps) :
    Calls Try.prog 113 #[v, .func (.func 73) #[] #[]] w (FindPost bigB ps w) := by
  obtain ⟨a, cap, rfl, hc1, hc2⟩ := hP.shape
  have HP := Lib.hid hP; clear hP
  have eg := enters_big
  go_enter Try.func113, Try.ntmps113
  go_wp2_with fail
  go_loopg [8] (ps.length) (fun f x wr => ∃ k : Nat, x = .int .i64 k ∧ k ≤ ps.length ∧ ps.length ≤ k + f ∧ Hid ((ps.take k).any bigB = false) ∧ Below w.heap.size w wr)
  case atStart => exact ⟨0, rfl, by omega, by omega, by simp [Hid], Below.refl _ _⟩
  case round =>
    obtain ⟨k, rfl, hk, hf, hN, hb⟩ := hrel
    by_cases hlt : k < ps.length
    · obtain ⟨g, o, rfl, hg, c0, c1, b0, b1⟩ := (HP.out.new hb).at k hlt
      have hbg := fun wx => tree_big ps[k] wx b1
      have hsn := Lib.hid (show (ps.take (k + 1)).any bigB = (bigB ps[k] || false) from by rw [List.take_succ_eq_append_getElem hlt, List.any_append, hN.out]; simp)
      have hany := Lib.hid (show bigB ps[k] = true → ps.any bigB = true from fun h => List.any_eq_true.2 ⟨_, List.getElem_mem hlt, h⟩)
      have hbs := hb.size
      generalize bigB ps[k] = y at hbg hsn hany
      have HB := Lib.hid hbg; clear hbg
      cases y with
      | true =>
        have HA := Lib.hid (hany.out rfl); clear hany hsn
        go_wp2_with fail
        refine (HB.out _).mono ?_
        rintro e w' ⟨rfl, hb'⟩
        go_wp2_with fail
        go_ret
        exact ⟨k, rfl, by rw [HA.out]; simp, hb.trans (hb'.mono hbs)⟩
      | false =>
        clear hany
        go_wp2_with fail
        refine (HB.out _).mono ?_
        rintro e w' ⟨rfl, hb'⟩
        go_wp2_with fail
        go_roundg (gk - 1)
        case measure => omega
        case rel => exact ⟨k + 1, by go_num, by omega, by omega, hsn.out, hb.trans (hb'.mono hbs)⟩
    · go_wp2_with fail
      go_ret
      refine ⟨-1, rfl, ?_, hb⟩
      have := hN.out
      rw [List.take_of_length_le (by omega)] at this
      rw [this]; rfl

set_option maxHeartbeats 400000 in
theorem props_ContainsFunc (R : Nat → Prop) (v : Value) (ps : List PropT) (w : World) (hP : PropsIn R w v ps) :
    Calls Try.prog 72 #[v, .func (.func 73) #[] #[]] w fun e w' => e = .returned (.bool (ps.any bigB)) ∧ Below w.heap.size w w' := by
  obtain ⟨a, cap, rfl, hc1, hc2⟩ := hP.shape
  go_enter Try.func72, Try.ntmps72
  go_wp2_with fail
  refine (props_IndexFunc R _ ps _ hP).mono ?_
  rintro e w' ⟨r, rfl, hr, hb⟩
  have HR := Lib.hid hr; clear hr
  go_wp2_with fail
  go_ret
  exact ⟨ret_bool (by rw [← HR.out]), hb⟩
end Go.Proofs.Ytjfkjnakmmkkiaa
