/- The law ExpressionChoices: the walk. -/
import Derived.Test.YtojcefkigcdkiaaDoorZ13

set_option linter.unusedVariables false
set_option linter.unusedSimpArgs false
set_option linter.unusedSectionVars false

namespace Go.Proofs.YtojcefkigcdkiaaDoor
open Go.RowKit

/-- A list of bytes that came in. -/
def BytesIn (w : World) (a : Option Addr) (l : List Nat) : Prop :=
  (∀ x ∈ l, x ≤ 255) ∧ (0 < l.length → ∃ g o, a = some ⟨g, o, none⟩ ∧ ∀ (i : Nat) (h : i < l.length), w.cell? ⟨g, o + i, none⟩ = some (.int .u8 l[i]))
theorem byte_parts {w : World} {a : Option Addr} {len cap : Nat} {zs : List Int}
    (h : (a = none ∧ len = 0 ∧ cap = 0 ∧ zs = []) ∨ ∃ x, a = some x ∧ len ≤ cap ∧ cap ≤ maxLen ∧ zs.length = cap ∧ (∀ i, i < zs.length → w.cell? (x.add i) = some (.int .u8 (zs.getD i 0))) ∧ ∀ n ∈ zs, (Lit.int .u8 n).wf = true) :
    ∃ l : List Nat, l.length = len ∧ BytesIn w a l ∧ len ≤ maxLen := by
  rcases h with ⟨rfl, rfl, rfl, rfl⟩ | ⟨x, rfl, hl, hm, hz, hc, hw⟩
  · exact ⟨[], rfl, ⟨by simp, fun h => absurd h (by simp)⟩, by unfold maxLen; omega⟩
  · have hw2 : ∀ n ∈ zs, 0 ≤ n ∧ n ≤ 255 := by
      intro n hn
      have := hw n hn
      simp [Lit.wf, IntKind.min, IntKind.max, IntKind.signed, IntKind.bits] at this
      omega
    refine ⟨(zs.take len).map Int.toNat, by simp; omega, ⟨?_, ?_⟩, by omega⟩
    · intro y hy
      obtain ⟨z, hz1, rfl⟩ := List.mem_map.1 hy
      have := hw2 z (List.mem_of_mem_take hz1)
      omega
    · intro h0
      have h0' : 0 < len := by simp at h0; omega
      obtain ⟨g, o, sp⟩ := x
      have hsp : sp = none := by simpa [Addr.add] using World.cell?_spot (hc 0 (by omega))
      subst hsp
      refine ⟨g, o, rfl, fun i hi => ?_⟩
      have hi' : i < len := by simp at hi; omega
      have hiz : i < zs.length := by omega
      have := hc i hiz
      have hadd : (⟨g, o, none⟩ : Addr).add i = ⟨g, o + i, none⟩ := by unfold Addr.add; split <;> simp_all
      rw [hadd, List.getD_eq_getElem?_getD, List.getElem?_eq_getElem hiz] at this
      have hb := hw2 _ (List.getElem_mem hiz)
      rw [this]
      simp
      omega
theorem fmt_calls {n : Nat} (h : n ≤ 4294967295) (w : World) (hB : LayB w) : Calls Tryd.prog 13 #[.int .i64 n] w fun e w' => e = .returned (.string ⟨(fmtT n).toArray⟩) ∧ Below w.heap.size w w' := by
  have := exp_Format n w hB
  rwa [show formT (n : Int) = fmtT n by unfold formT; rw [if_neg (by omega)]; rfl] at this
/-- The text so far. -/
def preT : List Nat → Nat → List UInt8
  | [], _ => []
  | x :: l, i => fmtT (x % 3) ++ [32, 63, 32] ++ fmtT (1000 + i) ++ [32, 58, 32] ++ preT l (i + 1)
theorem pre_snoc (x : Nat) : ∀ (l : List Nat) (i : Nat), preT (l ++ [x]) i = preT l i ++ (fmtT (x % 3) ++ [32, 63, 32] ++ fmtT (1000 + (i + l.length)) ++ [32, 58, 32]) := by
  intro l
  induction l with
  | nil => intro i; simp [preT]
  | cons y l ih => intro i; simp only [List.cons_append, preT, ih, List.length_cons, List.append_assoc]; rw [show i + 1 + l.length = i + (l.length + 1) from by omega]
theorem pre_all (last : Nat) : ∀ (l : List Nat) (i : Nat), chT l i last = preT l i ++ fmtT last := by
  intro l
  induction l with
  | nil => intro i; simp [chT, preT]
  | cons y l ih => intro i; simp only [chT, preT, ih, List.append_assoc]
theorem pre_len : ∀ (l : List Nat) (i : Nat), i + l.length ≤ 1000 → (preT l i).length ≤ 90 * l.length := by
  intro l
  induction l with
  | nil => intro i _; simp [preT]
  | cons x l ih =>
    intro i hi
    simp only [List.length_cons] at hi
    have hm : x % 3 < 3 := Nat.mod_lt _ (by omega)
    have h1 := fmt_len (x % 3) (by omega)
    have h2 := fmt_len (1000 + i) (by omega)
    have h3 := ih (i + 1) (by omega)
    simp only [preT, List.length_append, List.length_cons, List.length_nil]
    omega
/-- The value found so far, and whether one was found. -/
def wantT (last : Nat) : List Nat → Nat → Int × Bool
  | [], _ => (last, false)
  | x :: l, i => if ((x % 3 : Nat) : Int) = 0 then wantT last l (i + 1) else (((1000 + i : Nat) : Int), true)
theorem want_val (last : Nat) : ∀ (l : List Nat) (i : Nat), (wantT last l i).1 = chV l i last := by
  intro l
  induction l with
  | nil => intro i; rfl
  | cons x l ih => intro i; simp only [wantT, chV]; split <;> simp [ih]
theorem want_snoc (last x : Nat) : ∀ (l : List Nat) (i : Nat), wantT last (l ++ [x]) i = if (wantT last l i).2 = true then wantT last l i else if ((x % 3 : Nat) : Int) = 0 then ((last : Int), false) else (((1000 + (i + l.length) : Nat) : Int), true) := by
  intro l
  induction l with
  | nil => intro i; simp [wantT]
  | cons y l ih =>
    intro i
    simp only [List.cons_append, wantT]
    split
    · rw [ih (i + 1), List.length_cons, show i + 1 + l.length = i + (l.length + 1) from by omega]
    · simp
theorem want_no (last : Nat) : ∀ (l : List Nat) (i : Nat), (wantT last l i).2 = false → (wantT last l i).1 = last := by
  intro l
  induction l with
  | nil => intro i _; rfl
  | cons y l ih =>
    intro i h
    simp only [wantT] at h ⊢
    split
    · rename_i hc; rw [if_pos hc] at h; exact ih (i + 1) h
    · rename_i hc; rw [if_neg hc] at h; cases h
set_option maxHeartbeats 8000000 in
set_option maxRecDepth 100000 in
theorem exChoices_walk (a : Option Addr) (len cap : Nat) (l : List Nat) (last : Int) (w : World) (hlen : l.length = len) (hl : BytesIn w a l) (hm : len ≤ maxLen) (h0 : 0 ≤ last) (h1 : last ≤ 65535) (y0 : Lay0 w) (yB : LayB w) :
    Calls Tryd.prog 7 #[.slice a len cap, .int .u16 last] w fun e w' => e = .returned (.bool true) ∧ Below w.heap.size w w' := by
  have LL := Lib.hid (lay_keep y0 yB)
  have aw := fun wx hb => law02_awake wx (LL.out wx hb).1 (LL.out wx hb).2
  have AW := Lib.hid aw
  have fm := fun (n : Nat) (h : n ≤ 4294967295) wx hb => fmt_calls h wx (LL.out wx hb).2
  have FM := Lib.hid fm
  clear y0 yB aw fm
  obtain ⟨last, rfl⟩ := Int.eq_ofNat_of_zero_le h0
  unfold maxLen at hm
  by_cases h30 : 30 < len
  · have h30I : (30 : Int) < (len : Int) := by omega
    go_enter Tryd.func7, Tryd.ntmps7
    go_wp2_with fail
    refine (AW.out w (Below.refl _ _)).mono ?_
    rintro e w1 ⟨rfl, hb1⟩
    go_wp2_with fail
    go_ret
    exact ⟨rfl, hb1⟩
  · have h30I : ¬ (30 : Int) < (len : Int) := by omega
    have HLN := Lib.hid hlen
    obtain ⟨hby, hcl⟩ := hl
    have HBY := Lib.hid hby
    have HCL := Lib.hid hcl
    clear hby hcl hlen
    go_enter Tryd.func7, Tryd.ntmps7
    go_wp2_with fail
    go_loopg [5, 6, 7, 20] len (fun f t v q x wr => ∃ (i : Nat) (P : List UInt8) (vv : Int) (fb : Bool), x = .int .i64 i ∧ t = .string ⟨P.toArray⟩ ∧ v = .int .i64 vv ∧ q = .bool fb ∧ i + f = len ∧ Hid (P = preT (l.take i) 0) ∧ Hid ((vv, fb) = wantT last (l.take i) 0) ∧ Below w.heap.size w wr)
    case atStart => exact ⟨0, [], last, false, rfl, rfl, rfl, rfl, by omega, Lib.hid (by simp [preT]), Lib.hid (by simp [wantT]), Below.refl _ _⟩
    case round =>
      obtain ⟨i, P, vv, fb, rfl, rfl, rfl, rfl, hif, hP, hV, hb⟩ := hrel
      have hPl : P.length ≤ 2700 := by
        have := pre_len (l.take i) 0 (by simp; omega)
        rw [hP.out]
        have h2 : (l.take i).length ≤ 30 := by simp; omega
        omega
      by_cases h3 : i < len
      · have h3I : (i : Int) < (len : Int) := by omega
        have hil : i < l.length := by rw [HLN.out]; exact h3
        obtain ⟨g, o, rfl, hc⟩ := HCL.out (by omega)
        have c0 := hc i hil
        have c1 : wr.cell? ⟨g, o + i, none⟩ = some (.int .u8 (l[i]'hil : Nat)) := (hb.cell (World.block_lt_of_cell? w _ c0)).trans c0
        have hx := HBY.out (l[i]'hil) (List.getElem_mem hil)
        have htk : l.take (i + 1) = l.take i ++ [l[i]'hil] := by rw [List.take_succ_eq_append_getElem hil]
        have hP2 := pre_snoc (l[i]'hil) (l.take i) 0
        have hV2 := want_snoc last (l[i]'hil) (l.take i) 0
        have hti : (l.take i).length = i := by simp; omega
        rw [← htk, hti, ← hP.out, Nat.zero_add] at hP2
        rw [← htk, hti, ← hV.out, Nat.zero_add] at hV2
        generalize l[i]'hil = x at *
        obtain ⟨m, hmx⟩ : ∃ m, m = x % 3 := ⟨_, rfl⟩
        rw [← hmx] at hP2 hV2
        have hm3 : m < 3 := by omega
        have hmI : (x : Int) % 3 = (m : Int) := by omega
        have f1 := FM.out m (by omega) wr hb
        have l1 := fmt_len m (by omega)
        have l2 := fmt_len (1000 + i) (by omega)
        have d1 := adds_of (fmtT m) [32, 63, 32] (by simp; omega)
        have d2 := adds_of (fmtT m ++ [32, 63, 32]) (fmtT (1000 + i)) (by simp; omega)
        have d3 := adds_of (fmtT m ++ [32, 63, 32] ++ fmtT (1000 + i)) [32, 58, 32] (by simp; omega)
        have d4 := adds_of P (fmtT m ++ [32, 63, 32] ++ fmtT (1000 + i) ++ [32, 58, 32]) (by simp; omega)
        rw [← hP2] at d4
        unfold Adds at d1 d2 d3 d4
        have HP2 := Lib.hid hP2
        have HV2 := Lib.hid hV2
        have FI := Lib.hid (fun wx hb => FM.out (1000 + i) (by omega) wx hb)
        have F1 := Lib.hid f1
        have hiw : (1000 : Int) + (i : Int) = ((1000 + i : Nat) : Int) := by omega
        obtain ⟨ki, hki⟩ : ∃ z, z = 1000 + i := ⟨_, rfl⟩
        rw [← hki] at hiw d2 d3 d4 FI l2 HV2 HP2
        have hki2 : ki ≤ 1030 := by omega
        have HKI := Lib.hid hki
        clear hP2 hV2 f1 hki hmx hc c0 htk hti hx
        generalize hQ : preT (l.take (i + 1)) 0 = Q at *
        have HQ := Lib.hid hQ
        clear hQ
        generalize (fmtT m ++ [32, 63, 32] ++ fmtT ki ++ [32, 58, 32] : List UInt8) = s3 at *
        generalize (fmtT m ++ [32, 63, 32] ++ fmtT ki : List UInt8) = s2 at *
        generalize (fmtT m ++ [32, 63, 32] : List UInt8) = s1 at *
        generalize fmtT m = fm at *
        generalize fmtT ki = fk at *
        go_wp2_with fail
        refine (by exact F1.out : Calls _ _ _ _ _).mono ?_
        rintro e w2 ⟨rfl, hb2⟩
        have hb2' : Below w.heap.size w w2 := hb.trans (hb2.mono hb.size)
        go_wp2_with fail
        refine (by exact FI.out w2 hb2' : Calls _ _ _ _ _).mono ?_
        rintro e w3 ⟨rfl, hb3⟩
        have hb3' : Below w.heap.size w w3 := hb2'.trans (hb3.mono hb2'.size)
        clear d1 FI F1
        cases fb with
        | true =>
          have hv2 := HV2.out
          rw [if_pos rfl] at hv2
          have HW := Lib.hid hv2
          clear hv2 HV2
          by_cases hm0 : m = 0
          · subst hm0
            go_wp2_with fail
            go_roundg (gk - 1)
            case measure => omega
            case rel => exact ⟨i + 1, Q, vv, true, rfl, rfl, rfl, rfl, by omega, Lib.hid HQ.out.symm, Lib.hid HW.out.symm, hb3'⟩
          · have hmb : ((m : Int) != 0) = true := by simpa using hm0
            clear hm0
            go_wp2_with fail
            go_roundg (gk - 1)
            case measure => omega
            case rel => exact ⟨i + 1, Q, vv, true, rfl, rfl, rfl, rfl, by omega, Lib.hid HQ.out.symm, Lib.hid HW.out.symm, hb3'⟩
        | false =>
          have hv2 := HV2.out
          rw [if_neg (by simp)] at hv2
          have hv3 : vv = last := by
            have h4 := want_no last (l.take i) 0 (by rw [← hV.out])
            rw [← hV.out] at h4
            exact h4
          subst hv3
          by_cases hm0 : m = 0
          · subst hm0
            rw [if_pos (by rfl)] at hv2
            have HW := Lib.hid hv2
            clear hv2 HV2
            go_wp2_with fail
            go_roundg (gk - 1)
            case measure => omega
            case rel => exact ⟨i + 1, Q, last, false, rfl, rfl, rfl, rfl, by omega, Lib.hid HQ.out.symm, Lib.hid HW.out.symm, hb3'⟩
          · have hmb : ((m : Int) != 0) = true := by simpa using hm0
            rw [if_neg (by omega)] at hv2
            have HW := Lib.hid hv2
            clear hm0 hv2 HV2
            go_wp2_with fail
            go_roundg (gk - 1)
            case measure => omega
            case rel => exact ⟨i + 1, Q, ki, true, rfl, rfl, rfl, rfl, by omega, Lib.hid HQ.out.symm, Lib.hid HW.out.symm, hb3'⟩
      · obtain rfl : i = len := by omega
        have h3I : ¬ (i : Int) < (i : Int) := by omega
        have htk : l.take i = l := List.take_of_length_le (by rw [HLN.out]; exact Nat.le_refl _)
        have hP2 := hP.out
        have hV2 := hV.out
        rw [htk] at hP2 hV2
        have hc := ch_comp l last (by omega) (by rw [HLN.out]; omega)
        rw [pre_all, ← hP2, ← want_val, ← hV2] at hc
        simp only at hc
        have l1 := fmt_len last (by omega)
        have d1 := adds_of P (fmtT last) (by omega)
        have hpl2 : (P ++ fmtT last).length ≤ 1000000 := by simp; omega
        have f1 := FM.out last (by omega) wr hb
        have F1 := Lib.hid f1
        unfold Adds at d1
        clear hP2 hV2 htk f1
        generalize (P ++ fmtT last : List UInt8) = R at *
        generalize fmtT last = fl at *
        go_wp2_with fail
        refine (by exact F1.out : Calls _ _ _ _ _).mono ?_
        rintro e w2 ⟨rfl, hb2⟩
        have hb2' : Below w.heap.size w w2 := hb.trans (hb2.mono hb.size)
        go_wp2_with fail
        refine (exp_comp hc w2 hpl2 (LL.out w2 hb2').1).mono ?_
        rintro e w3 ⟨rfl, hb3⟩
        have hb3' : Below w.heap.size w w3 := hb2'.trans (hb3.mono hb2'.size)
        go_wp2_with fail
        refine (AW.out w3 hb3').mono ?_
        rintro e w4 ⟨rfl, hb4⟩
        go_wp2_with fail
        go_ret
        exact ⟨rfl, hb3'.trans (hb4.mono hb3'.size)⟩
end Go.Proofs.YtojcefkigcdkiaaDoor
