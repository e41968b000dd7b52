/- The tape: Order (the numbers below n, in some order). -/
import Derived.Test.YtjfkjnakmmkkiaaGreatZ6
import Derived.Test.YtjfkjnakmmkkiaaGreatZ8

namespace Go.Proofs.YtjfkjnakmmkkiaaGreat
open Go.RowKit

/-- Putting in at a place. -/
def insO (l : List Nat) (p k : Nat) : List Nat := l.take p ++ k :: l.drop p
theorem insO_len {l : List Nat} {p k : Nat} (h : p ≤ l.length) : (insO l p k).length = l.length + 1 := by unfold insO; simp; omega
theorem insO_mem {l : List Nat} {p k x : Nat} : x ∈ insO l p k ↔ x = k ∨ x ∈ l := by
  unfold insO
  rw [List.mem_append, List.mem_cons]
  have : x ∈ l ↔ x ∈ l.take p ∨ x ∈ l.drop p := by rw [← List.mem_append, List.take_append_drop]
  rw [this]
  constructor
  · rintro (h | h | h)
    · exact .inr (.inl h)
    · exact .inl h
    · exact .inr (.inr h)
  · rintro (h | h | h)
    · exact .inr (.inl h)
    · exact .inl h
    · exact .inr (.inr h)
/-- The numbers below n, in some order. -/
def Perm (l : List Nat) (n : Nat) : Prop := l.length = n ∧ ∀ x, x ∈ l ↔ x < n
theorem perm_ins {l : List Nat} {p k : Nat} (h : Perm l k) (hp : p ≤ l.length) : Perm (insO l p k) (k + 1) :=
  ⟨by rw [insO_len hp, h.1], fun x => by rw [insO_mem, h.2]; omega⟩
def OrdR (n : Nat) (w : World) (B b : Nat) (f : Nat) (x y : Value) (wr : World) : Prop :=
  ∃ (k : Nat) (l : List Nat), x = .int .i64 k ∧ k ≤ n ∧ n ≤ k + f ∧ Perm l k ∧ wr.ownsRow w.heap.size 3 1 y l.length (natCells l) ∧ (l = [] → y = .slice none 0 0) ∧ Tape B wr b ∧ Keeps (· = b) w wr
def OrdP (n : Nat) (w : World) (B b : Nat) (e : Ending) (w' : World) : Prop :=
  ∃ (v : Value) (l : List Nat), e = .returned v ∧ Perm l n ∧ w'.ownsRow w.heap.size 3 1 v l.length (natCells l) ∧ Tape B w' b ∧ Keeps (· = b) w w'

set_option maxRecDepth 100000 in
set_option maxHeartbeats 4000000 in
theorem mk_Order (B b n : Nat) (w : World) (h : Tape B w b) (hn : n ≤ 1000) :
    Calls Tryz.prog 57 #[.pointer (some ⟨b, 0, none⟩), .int .i64 n] w (OrdP n w B b) := by
  have hbw := h.lt
  go_enter Tryz.func57, Tryz.ntmps57
  go_wp2_with fail
  go_loopg [6, 5] n (fun f x y wr => OrdR n w B b f x y wr)
  case atStart => exact ⟨0, [], rfl, by omega, by omega, ⟨rfl, fun x => by simp⟩, World.ownsRow_nil _ _ _ _, fun _ => rfl, h, Keeps.refl _ _⟩
  case round =>
    obtain ⟨go, rfl⟩ : ∃ x : Nat, x = gk := ⟨_, rfl⟩
    obtain ⟨wo, rfl⟩ : ∃ x : World, x = wr := ⟨_, rfl⟩
    obtain ⟨k, l, rfl, hk, hf, hPm, hown, hnil, hT, hK⟩ := hrel
    obtain ⟨cv, rfl⟩ : ∃ x : Value, x = u5 := ⟨_, rfl⟩
    have hks := hK.size
    by_cases hlt : k < n
    · have hltI : (k : Int) < (n : Int) := by omega
      have hll := hPm.1
      obtain ⟨ca, cc0, hcv0⟩ := row_slice hown
      obtain ⟨m, hm⟩ : ∃ m, m = l.length := ⟨_, rfl⟩
      have hlb : m ≤ 1000 := by omega
      rw [← hm] at hcv0
      have HM := Lib.hid hm
      have HOWN := Lib.hid hown
      have HNIL := Lib.hid hnil
      have HPM := Lib.hid hPm
      clear hown hnil hPm hll hm
      subst hcv0
      go_wp2_with fail
      refine (mk_N B b (m + 1) _ hT (by omega) (by omega)).mono ?_
      rintro e wc ⟨r, rfl, r0, r1, hTc, hKc⟩
      obtain ⟨p, rfl⟩ := Int.eq_ofNat_of_zero_le r0
      have hpl : p ≤ l.length := by have := HM.out; omega
      have hownq : wc.ownsRow w.heap.size 3 1 (.slice ca m cc0) l.length (natCells l) := ownsRow_keeps HOWN.out hKc (fun g hg e => by have := (HOWN.out.lt g hg).1; omega)
      have hKK : Keeps (· = b) w wc := hK.trans hKc (fun _ _ e => e)
      have hsq := hKK.size
      have hpm2 := Lib.hid (perm_ins (p := p) HPM.out hpl)
      have hil := Lib.hid (insO_len (k := k) hpl)
      clear r0 r1 HOWN hT hK hKc hks
      have hins := Lib.hid (show insO l p k = l.take p ++ k :: l.drop p from rfl)
      obtain ⟨i0, hi, hz0, hz1, hz2⟩ := info_parts infoIn
      by_cases hl0 : l = []
      · have hcv := HNIL.out hl0
        subst hl0
        obtain rfl : m = 0 := HM.out
        cases hcv
        obtain rfl : p = 0 := by simpa using hpl
        clear hownq hpl
        go_wp2_with (first
          | (at_builtin; refine wpList_append_own_none rfl (.tmp 20) (.tmp 23) 22 rfl wc.heap.size 3 i0 1 Tryz.underlying22 hi (.slice (some ⟨wc.heap.size, 0, none⟩) 1 1) 1 [.int .i64 k] rfl (by exact row_built (n := 1) rfl (Nat.le_refl _) rfl (by omega)) rfl ?_)
          | (at_builtin; refine wpList_append_own _ rfl (.tmp 28) (.tmp 29) 22 rfl w.heap.size 3 i0 (.int .i64 0) 1 8 Tryz.underlying22 hi hz0 hz1 hz2 rfl (by decide) (.slice none 0 0) 0 [] rfl (World.ownsRow_nil _ _ _ _) ⟨wc.heap.size, 0, none⟩ 1 1 [.int .i64 k] rfl rfl ?c1 ?c2 ?c3 ?c4 ?c5 ?_))
        case c1 => exact (row_built (w := wc) (base := 0) (n := 1) (size := 1) (cs := #[.int .i64 k]) rfl (Nat.zero_le _) rfl (by omega)).cells (g := wc.heap.size) rfl
        case c2 => intro x hx; simp at hx; subst hx; rfl
        case c4 => omega
        case c3 => unfold maxLen; omega
        case c5 => simp; omega
        intro v' w6 hown' hgrow _
        have hb6 := ((Below.refl wc.heap.size wc).alloc (Nat.le_refl _) (.cells #[.int .i64 k] 3)).grown hgrow (by simp) (fun q hq => by simp [Value.ownBlock] at hq)
        have hK6 := hKK.trans (Keeps.of_fresh hb6 (· = b)) (fun _ _ e => e)
        have hT6 := hTc.keeps (Keeps.of_fresh hb6 (fun _ => False)) (fun _ e => e.elim)
        clear hgrow
        obtain ⟨va, vc, rfl⟩ := row_slice hown'
        go_wp2_with fail
        go_roundg (go - 1)
        case measure => omega
        case rel => exact ⟨k + 1, insO [] 0 k, by go_num, by omega, by omega, hpm2.out, hown', (fun e => by have := congrArg List.length e; simp [insO] at this), hT6, hK6⟩
      · obtain ⟨cg, cc, hcv, hccl, hccm⟩ : ∃ cg cc, (.slice ca m cc0 : Value) = .slice (some ⟨cg, 0, none⟩) l.length cc ∧ l.length ≤ cc ∧ cc ≤ maxLen := by
          rcases hownq.2 with ⟨_, h0⟩ | ⟨g', cp, cur, e, _, _, h1, h2, _⟩
          · exact absurd (List.length_eq_zero_iff.1 h0) hl0
          · exact ⟨g', cp, e, h1, h2⟩
        obtain rfl : m = l.length := HM.out
        cases hcv
        unfold maxLen at hccm
        clear hl0
        have HOW := Lib.hid hownq
        clear hownq
        by_cases hcp : cc0 = p
        · obtain rfl : p = l.length := by omega
          obtain rfl : cc0 = l.length := by omega
          go_wp2_with (at_builtin; refine wpList_append_own _ rfl (.tmp 20) (.tmp 23) 22 rfl wc.heap.size 3 i0 (.int .i64 0) 1 8 Tryz.underlying22 hi hz0 hz1 hz2 rfl (by decide) (.slice (some ⟨wc.heap.size, 0, none⟩) 1 1) 1 [.int .i64 k] rfl (by exact row_built (n := 1) rfl (Nat.le_refl _) rfl (by omega)) ⟨cg, 0, none⟩ 0 0 [] rfl (by simp) ?a1 ?a2 ?a3 ?a4 ?a5 ?_)
          case a1 => intro j u h; simp at h
          case a2 => intro u h; simp at h
          case a4 => omega
          case a5 => simp
          case a3 => unfold maxLen; omega
          intro v10 w10 hown10 hgrow10 _
          have hbx : Below wc.heap.size wc w10 := ((Below.refl wc.heap.size wc).alloc (Nat.le_refl _) (.cells #[.int .i64 k] 3)).grown hgrow10 (by simp) (fun q hq => by have : wc.heap.size = q := Option.some.inj hq; omega)
          have hrow10 := row_new HOW.out hbx
          clear hgrow10
          obtain ⟨rg, rc, rfl, hr1, hr2⟩ := hown10.form (by omega)
          have HO10 := Lib.hid hown10
          have HR10 := Lib.hid hrow10
          have hs10 := hbx.size
          clear hown10 hrow10
          go_wp2_with (at_builtin; refine wpList_append_grows _ rfl (.tmp 28) (.tmp 29) 22 rfl 3 i0 (.int .i64 0) 1 8 Tryz.underlying22 hi hz0 hz1 hz2 rfl (by decide) (some ⟨cg, 0, none⟩) l.length l.length (natCells (l.take l.length)) rfl (by intro h; cases h) ?e0 ?e1 ⟨rg, 0, none⟩ 1 rc ([.int .i64 k]) rfl ?e2 ?e3 ?e4 ?e5 ?e6 ?e7 ?_)
          case e0 => simp [natCells]
          case e1 => intro b hb2; cases hb2; rw [natCells_take]; exact row_upto HR10.out l.length
          case e2 => simp
          case e3 => exact HO10.out.cells (g := rg) rfl
          case e4 =>
            intro x hx
            simp at hx; subst hx; rfl
          case e5 => omega
          case e6 => unfold maxLen; omega
          case e7 => omega
          intro v11 w11 hown11 hgrow11
          have hb11 := hbx.grown hgrow11 hs10 (fun q hq => by cases hq)
          have hK11 := hKK.trans (Keeps.of_fresh hb11 (· = b)) (fun _ _ e => e)
          have hT11 := hTc.keeps (Keeps.of_fresh hb11 (fun _ => False)) (fun _ e => e.elim)
          clear hgrow11
          obtain ⟨va, vc, rfl⟩ := row_slice hown11
          have hown12 := row_base hown11 (show w.heap.size ≤ w10.heap.size by omega)
          go_wp2_with fail
          go_roundg (go - 1)
          case measure => omega
          case rel => exact ⟨k + 1, insO l l.length k, by go_num, by omega, by omega, hpm2.out, by rw [hil.out, hins.out]; simpa [natCells] using hown12, (fun e => by have := congrArg List.length e; rw [hil.out] at this; simp at this), hT11, hK11⟩
        · have hpc : p < cc0 := by omega
          go_wp2_with (at_builtin; refine wpList_append_own _ rfl (.tmp 20) (.tmp 23) 22 rfl wc.heap.size 3 i0 (.int .i64 0) 1 8 Tryz.underlying22 hi hz0 hz1 hz2 rfl (by decide) (.slice (some ⟨wc.heap.size, 0, none⟩) 1 1) 1 [.int .i64 k] rfl (by exact row_built (n := 1) rfl (Nat.le_refl _) rfl (by omega)) ⟨cg, p, none⟩ (l.length - p) (cc0 - p) (natCells (l.drop p)) rfl (by simp [natCells]) ?b1 ?b2 ?b3 ?b4 ?b5 ?_)
          case b1 => rw [natCells_drop]; exact row_from (World.ownsRow.alloc HOW.out _) p
          case b2 => exact natCells_one _
          case b3 => unfold maxLen; omega
          case b4 => omega
          case b5 => simp
          intro v10 w10 hown10 hgrow10 _
          have hbx : Below wc.heap.size wc w10 := ((Below.refl wc.heap.size wc).alloc (Nat.le_refl _) (.cells #[.int .i64 k] 3)).grown hgrow10 (by simp) (fun q hq => by have : wc.heap.size = q := Option.some.inj hq; omega)
          have hrow10 := row_new HOW.out hbx
          clear hgrow10
          obtain ⟨rg, rc, rfl, hr1, hr2⟩ := hown10.form (by omega)
          have HO10 := Lib.hid hown10
          have HR10 := Lib.hid hrow10
          have hs10 := hbx.size
          clear hown10 hrow10
          go_wp2_with (at_builtin; refine wpList_append_grows _ rfl (.tmp 28) (.tmp 29) 22 rfl 3 i0 (.int .i64 0) 1 8 Tryz.underlying22 hi hz0 hz1 hz2 rfl (by decide) (some ⟨cg, 0, none⟩) p p (natCells (l.take p)) rfl (by intro h; cases h) ?q0 ?q1 ⟨rg, 0, none⟩ (1 + (l.length - p)) rc ([.int .i64 k] ++ natCells (l.drop p)) rfl ?q2 ?q3 ?q4 ?q5 ?q6 ?q7 ?_)
          case q0 => simp [natCells]; omega
          case q1 => intro b hb2; cases hb2; rw [natCells_take]; exact row_upto HR10.out p
          case q2 => simp [natCells]; omega
          case q3 => exact HO10.out.cells (g := rg) rfl
          case q4 =>
            intro x hx
            rcases List.mem_append.1 hx with hx | hx
            · simp at hx; subst hx; rfl
            · exact natCells_one _ x hx
          case q5 => omega
          case q6 => unfold maxLen; omega
          case q7 => omega
          intro v11 w11 hown11 hgrow11
          rw [show p + (1 + (l.length - p)) = l.length + 1 from by omega] at hown11
          have hb11 := hbx.grown hgrow11 hs10 (fun q hq => by cases hq)
          have hK11 := hKK.trans (Keeps.of_fresh hb11 (· = b)) (fun _ _ e => e)
          have hT11 := hTc.keeps (Keeps.of_fresh hb11 (fun _ => False)) (fun _ e => e.elim)
          clear hgrow11
          obtain ⟨va, vc, rfl⟩ := row_slice hown11
          have hown12 := row_base hown11 (show w.heap.size ≤ w10.heap.size by omega)
          go_wp2_with fail
          go_roundg (go - 1)
          case measure => omega
          case rel => exact ⟨k + 1, insO l p k, by go_num, by omega, by omega, hpm2.out, by rw [hil.out, hins.out]; simpa [natCells] using hown12, (fun e => by have := congrArg List.length e; rw [hil.out] at this; simp at this), hT11, hK11⟩
    · have hk2 : ¬ (k : Int) < (n : Int) := by omega
      obtain rfl : k = n := by omega
      have HOWN := Lib.hid hown
      obtain ⟨ca, cc0, rfl⟩ := row_slice hown
      clear hown
      go_wp2_with fail
      go_ret
      exact ⟨_, l, rfl, hPm, HOWN.out, hT, hK⟩
end Go.Proofs.YtjfkjnakmmkkiaaGreat
