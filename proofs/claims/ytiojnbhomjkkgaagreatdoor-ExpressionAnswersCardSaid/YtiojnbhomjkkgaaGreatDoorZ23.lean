/- bringupref02: Compute (turned from ExpR). | bringupref02: Format. | The law ExpressionAnswers: what the walk uses of readers, in one form. | The walk of the law ExpressionAnswers. -/
import Derived.Test.YtiojnbhomjkkgaaGreatDoorZ20
import Derived.Test.YtiojnbhomjkkgaaGreatDoorZ16
import Derived.Test.YtiojnbhomjkkgaaGreatDoorZ22
import Derived.Test.YtiojnbhomjkkgaaGreatDoorZ12
import Derived.Test.YtiojnbhomjkkgaaGreatDoorZ8
import Derived.Deep.LoopGhost
import Derived.Test.YtiojnbhomjkkgaaGreatDoorZ17
import Derived.Test.YtiojnbhomjkkgaaGreatDoorZ18
import Derived.Test.YtiojnbhomjkkgaaGreatDoorZ24
import Derived.Test.YtiojnbhomjkkgaaGreatDoorZ14

set_option linter.unusedVariables false
set_option linter.unusedSimpArgs false
set_option linter.unusedSectionVars false

namespace Go.Proofs.YtiojnbhomjkkgaaGreatDoor
open Go.RowKit

set_option maxRecDepth 100000 in
set_option maxHeartbeats 8000000 in
theorem r2_Compute (s : ByteArray) (w : World) (hs : s.size ≤ maxLen) :
    Calls Tryz.prog 14 #[.string s] w fun e w' => ∃ v er, e = .returned (.tuple #[.int .i64 v, .int .i64 er]) ∧ CompR s.data.toList v er ∧ Below w.heap.size w w' := by
  have hrd := ref_Read s 0 w hs
  unfold ReadPost posAgg at hrd
  have htx := readT_text s.data.toList 0
  have hpl := fun h W d res hr => @out_place s.data.toList 0 h W d res hr
  show Calls _ _ _ _ fun e w' => ∃ v er, e = .returned (.tuple #[.int .i64 v, .int .i64 er]) ∧ CompQ (readT s.data.toList 0) v er ∧ Below w.heap.size w w'
  generalize readT s.data.toList 0 = T at *
  obtain ⟨toks, ⟨p1, p2, p3⟩, er⟩ := T
  simp only at hrd htx hpl
  have HPL := Lib.hid hpl
  have HTX := Lib.hid htx
  clear hpl htx
  by_cases he : er = 0
  · subst he
    go_enter Tryz.func14, Tryz.ntmps14
    go_wp2_with fail
    refine hrd.mono ?_
    rintro e w1 ⟨v, rfl, hown, hb⟩
    have hTK := tokAt_row hown HTX.out.1
    have hlen : toks.length ≤ 6001 := HTX.out.2.1
    have hpos : 0 < toks.length := by
      obtain ⟨ts, t, h, _⟩ := HTX.out.2.2 (by simp)
      rw [h]; simp
    obtain ⟨a, cap, rfl⟩ := ownsRow_shape hown
    have HB := Lib.hid hb
    have k1 := (Keeps.refl (fun _ => False) w1).alloc (.cells #[.int .i64 p1, .int .i64 p2, .int .i64 p3] 38)
    have hTA := (hTK.keeps k1 (fun _ _ e => e)).mono (S := fun x => x < (w1.alloc (.cells #[.int .i64 p1, .int .i64 p2, .int .i64 p3] 38)).heap.size) (fun x hx => by simp; omega)
    have hv := r2_Value (toks.map tkX) _ 0 _ hTA (by simp; omega)
    unfold ValuePostX at hv
    have hcond : (0 : Int) ≤ 0 ∧ (0 : Int) < ((toks.map tkX).length : Int) := ⟨by omega, by simp; omega⟩
    simp only [if_pos hcond] at hv
    clear hcond
    have HTA := Lib.hid hTA
    clear hown hb hrd hTK k1 hTA
    go_wp2_with fail
    refine (by exact hv : Calls _ _ _ _ _).mono ?_
    rintro e w2 ⟨⟨r1, r2, r3⟩, rfl, hb2, res, hres, hout⟩
    obtain ⟨_, hq1, hq2⟩ := HPL.out (by simp) .whole 0 res hres
    have hq0 : (outT res).2.1 = r2 := by rw [← hout]
    rw [hq0] at hq1 hq2
    obtain ⟨k, rfl⟩ := Int.eq_ofNat_of_zero_le hq1
    simp only [Int.toNat_natCast] at hq2
    obtain ⟨a', c', ea, _, hcl⟩ := HTA.out.keeps (Keeps.of_fresh hb2 (fun _ => False)) (fun _ _ e => e)
    simp only [Value.slice.injEq] at ea
    obtain ⟨rfl, -, rfl⟩ := ea
    obtain ⟨gt, ot, rfl, _, hcl⟩ := hcl (by simpa using hpos)
    obtain ⟨d0, _, _⟩ := hcl k (by simpa using hq2)
    have hkI : (k : Int) < (toks.length : Int) := by omega
    have hkI2 : ¬ ((toks.length : Int) ≤ (k : Int)) := by omega
    have hkL : k < (toks.map tkX).length := by simpa using hq2
    have ht : (toks.map tkX)[k]? = some ((toks.map tkX)[k]'hkL) := List.getElem?_eq_getElem hkL
    have HBF := Lib.hid ((HB.out.alloc HB.out.size (.cells #[.int .i64 p1, .int .i64 p2, .int .i64 p3] 38)).trans (hb2.mono (by simp; have := HB.out.size; omega)))
    generalize (toks.map tkX)[k]'hkL = tk at *
    obtain ⟨kd, tx, tv⟩ := tk
    simp only at d0
    have HT := Lib.hid ht
    have HR := Lib.hid hres
    have HOUT := Lib.hid hout
    clear hres hout ht hq0 hq1 hcl hb2 hv
    by_cases h3 : r3 = 0
    · subst h3
      by_cases h8 : kd = 8
      · subst h8
        go_wp2_with fail
        go_ret2
        exact ⟨r1, 0, rfl, comp_end HR.out HOUT.out HT.out rfl (by rw [if_pos rfl]; exact ⟨rfl, rfl⟩), HBF.out⟩
      · have h8b : (kd != 8) = true := by simpa using h8
        have H8 := Lib.hid h8
        clear h8
        go_wp2_with fail
        go_ret2
        exact ⟨0, 6, rfl, comp_end HR.out HOUT.out HT.out rfl (by rw [if_neg H8.out]; exact ⟨rfl, rfl⟩), HBF.out⟩
    · have h3b : (r3 != 0) = true := by simpa using h3
      have H3 := Lib.hid h3
      clear h3
      go_wp2_with fail
      go_ret2
      exact ⟨0, r3, rfl, comp_err HR.out HOUT.out H3.out, HBF.out⟩
  · have hne : (er != 0) = true := by simpa using he
    go_enter Tryz.func14, Tryz.ntmps14
    go_wp2_with fail
    refine hrd.mono ?_
    rintro e w1 ⟨v, rfl, hown, hb⟩
    have HO := Lib.hid hown
    have HB := Lib.hid hb
    have HE := Lib.hid he
    clear hown hb hrd he
    go_wp2_with fail
    go_ret2
    exact ⟨0, er, rfl, by unfold CompQ; rw [if_pos HE.out]; exact ⟨rfl, rfl⟩, HB.out.alloc (HB.out.size) _⟩
end Go.Proofs.YtiojnbhomjkkgaaGreatDoor

namespace Go.Proofs.YtiojnbhomjkkgaaGreatDoor
open Go.RowKit

theorem r2_small : ∀ x : Fin 10, (⟨#[48, 49, 50, 51, 52, 53, 54, 55, 56, 57]⟩ : ByteArray).extract x (x + 1) = ⟨#[digCh false x]⟩ := by decide +kernel
set_option maxRecDepth 100000 in
set_option maxHeartbeats 4000000 in
theorem r2_Format (n : Int) (w : World) :
    Calls Tryz.prog 23 #[.int .i64 n] w fun e w' => e = .returned (.string ⟨(formT n).toArray⟩) ∧ Below w.heap.size w w' := by
  by_cases h0 : n < 0
  · have hF := Lib.hid (show formT n = [] from by unfold formT; rw [if_pos (.inl h0)])
    go_enter Tryz.func23, Tryz.ntmps23
    go_wp2_with fail
    go_ret
    exact ⟨by rw [hF.out]; rfl, Below.refl _ _⟩
  · by_cases h1 : 4294967295 < n
    · have hF := Lib.hid (show formT n = [] from by unfold formT; rw [if_pos (.inr h1)])
      go_enter Tryz.func23, Tryz.ntmps23
      go_wp2_with fail
      go_ret
      exact ⟨by rw [hF.out]; rfl, Below.refl _ _⟩
    · obtain ⟨k, rfl⟩ := Int.eq_ofNat_of_zero_le (by omega : 0 ≤ n)
      have hF : formT (k : Int) = fmtT k := by unfold formT; rw [if_neg (by omega)]; rfl
      by_cases h2 : k < 10
      · have hF2 := Lib.hid (show formT (k : Int) = [digCh false k] from by rw [hF]; unfold fmtT; rw [if_pos h2])
        have h3 : (k : Int) < 10 := by omega
        have hd := Lib.hid (r2_small ⟨k, h2⟩)
        clear hF
        go_enter Tryz.func23, Tryz.ntmps23
        go_wp2_with fail
        go_ret
        exact ⟨by rw [hF2.out, ← hd.out]; rfl, Below.refl _ _⟩
      · have hR := Lib.hid (show basedT 16 false k = digitsT 16 false k k [] from by
          unfold basedT
          obtain ⟨p, rfl⟩ : ∃ p, k = p + 1 := ⟨k - 1, by omega⟩
          rw [digitsT.eq_2, if_neg (by omega)]
          exact digitsT_fuel 16 false (by omega) _ _ _ _ (by omega) (by omega))
        have hF2 := Lib.hid (show formT (k : Int) = 48 :: 120 :: basedT 16 false k from by rw [hF]; unfold fmtT; rw [if_neg h2])
        have h3 : ¬ (k : Int) < 10 := by omega
        have hlen : (basedT 16 false k).length ≤ 33 := basedT_len 16 false (by omega) 32 k (by omega)
        have had := adds_of [48, 120] (basedT 16 false k) (by simp; omega)
        obtain ⟨E, hE⟩ : ∃ E : List UInt8, E = [48, 120] ++ basedT 16 false k := ⟨_, rfl⟩
        rw [← hE] at had
        have HE := Lib.hid hE
        have hkb : k ≤ 4294967295 := by omega
        unfold Adds at had
        have HAD := Lib.hid had
        generalize basedT 16 false k = R at *
        clear hE hlen hF had
        go_enter Tryz.func23, Tryz.ntmps23
        go_wp2_with fail
        go_loopg [0, 3] k (fun f i s8 wr => ∃ (m nd : Nat) (acc : List UInt8) (sb : ByteArray), i = .int .i64 m ∧ s8 = .string sb ∧ Hid (sb = ⟨acc.toArray⟩) ∧ sb.size + f ≤ 2199023255552 ∧ m ≤ f ∧ m ≤ 4294967295 ∧ Hid (R = digitsT 16 false f m acc) ∧ wr = w.drewN nd)
        case atStart => exact ⟨k, 0, [], ByteArray.empty, rfl, rfl, rfl, by simp; omega, Nat.le_refl _, hkb, hR, rfl⟩
        case round =>
          obtain ⟨m, nd, acc, sb, rfl, rfl, hsb, hsz, hmf, hmb, hE, rfl⟩ := hrel
          by_cases hz : 0 < m
          · obtain ⟨f, rfl⟩ : ∃ f', gk = f' + 1 := ⟨gk - 1, by omega⟩
            have hm : m % 16 < 16 := Nat.mod_lt _ (by omega)
            have hm' : ((m : Int) % 16) < 16 := by omega
            have hm0 : 0 ≤ ((m : Int) % 16) := by omega
            have hq2 : m / 16 < m := Nat.div_lt_self hz (by omega)
            have hq1' : ((m : Int) / 16) ≤ 4294967295 := by omega
            have hq0' : 0 ≤ ((m : Int) / 16) := by omega
            have hE2 := Lib.hid (show R = digitsT 16 false f (m / 16) (digCh false (m % 16) :: acc) from by rw [hE.out]; simp only [digitsT]; rw [if_neg (by omega)])
            have hadd : ∀ wx : World, (Op.stringOp .add ((⟨#[48, 49, 50, 51, 52, 53, 54, 55, 56, 57, 97, 98, 99, 100, 101, 102]⟩ : ByteArray).extract (m % 16) (m % 16 + 1)) sb).run Tryz.prog wx = .ok (.string ((⟨#[48, 49, 50, 51, 52, 53, 54, 55, 56, 57, 97, 98, 99, 100, 101, 102]⟩ : ByteArray).extract (m % 16) (m % 16 + 1) ++ sb)) wx := fun wx => run_string_add_sum wx _ _ (by rw [dig_small (m % 16) (by omega), size_one]; omega)
            go_wp2_with fail
            go_roundg f
            case measure => omega
            case rel => exact ⟨m / 16, _, digCh false (m % 16) :: acc, _, by rw [Int.natCast_ediv]; rfl, rfl, by show _ = _; rw [hsb.out, dig_small (m % 16) (by omega)]; exact ByteArray.mk_append_mk [_] acc, by rw [dig_small (m % 16) (by omega), ByteArray.size_append, size_one]; omega, by omega, by omega, hE2, rfl⟩
          · obtain rfl : m = 0 := by omega
            have hE2 := Lib.hid (show R = acc from by rw [hE.out]; cases gk <;> simp [digitsT])
            obtain rfl : sb = ⟨R.toArray⟩ := by rw [hE2.out]; exact hsb.out
            clear hE hsz hsb
            have hadd := HAD.out
            go_wp2_with fail
            go_ret
            exact ⟨by rw [hF2.out, HE.out]; rfl, Keeps.below (S := fun _ => False) ((Keeps.refl _ w).drewN _) (Nat.le_refl _) (fun _ _ e => e)⟩
end Go.Proofs.YtiojnbhomjkkgaaGreatDoor

namespace Go.Proofs.YtiojnbhomjkkgaaGreatDoor
open Go.RowKit

theorem six_atE (x0 x1 x2 x3 x4 x5 : ByteArray) (n : Nat) (h0 : x0.size ≤ n) (h1 : x1.size ≤ n) (h2 : x2.size ≤ n) (h3 : x3.size ≤ n) (h4 : x4.size ≤ n) (h5 : x5.size ≤ n) (k : Nat) (hk : k < 6) :
    ∃ x : ByteArray, (#[Value.string x0, .string x1, .string x2, .string x3, .string x4, .string x5] : Array Value)[k]? = some (.string x) ∧ x.size ≤ n := by
  have : k = 0 ∨ k = 1 ∨ k = 2 ∨ k = 3 ∨ k = 4 ∨ k = 5 := by omega
  rcases this with rfl | rfl | rfl | rfl | rfl | rfl
  · exact ⟨x0, rfl, h0⟩
  · exact ⟨x1, rfl, h1⟩
  · exact ⟨x2, rfl, h2⟩
  · exact ⟨x3, rfl, h3⟩
  · exact ⟨x4, rfl, h4⟩
  · exact ⟨x5, rfl, h5⟩
theorem six_intE (x0 x1 x2 x3 x4 x5 : Int) (k : Nat) (hk : k < 6) :
    ∃ x : Int, (#[Value.int .i64 x0, .int .i64 x1, .int .i64 x2, .int .i64 x3, .int .i64 x4, .int .i64 x5] : Array Value)[k]? = some (.int .i64 x) := by
  have : k = 0 ∨ k = 1 ∨ k = 2 ∨ k = 3 ∨ k = 4 ∨ k = 5 := by omega
  rcases this with rfl | rfl | rfl | rfl | rfl | rfl <;> exact ⟨_, rfl⟩
theorem three_intE (x0 x1 x2 : Int) (k : Nat) (hk : k < 3) : ∃ x : Int, (#[Value.int .i64 x0, .int .i64 x1, .int .i64 x2] : Array Value)[k]? = some (.int .i64 x) := by
  have : k = 0 ∨ k = 1 ∨ k = 2 := by omega
  rcases this with rfl | rfl | rfl <;> exact ⟨_, rfl⟩
/-- What Value and Primary answer. -/
def ValR (L : List (Int × ByteArray × Int)) (i : Int) (W : Wh) (r : Int × Int × Int) : Prop := if 0 ≤ i ∧ i < L.length then ∃ res, Rd L W 0 i.toNat res ∧ r = outT res else r = (0, 0, 2)
theorem ValR.det {L : List (Int × ByteArray × Int)} {i : Int} {W : Wh} {r s : Int × Int × Int} (h : ValR L i W r) (k : ValR L i W s) : r = s := by
  unfold ValR at h k
  split at h
  · rename_i hc
    rw [if_pos hc] at k
    obtain ⟨a, ha, rfl⟩ := h
    obtain ⟨b, hb, rfl⟩ := k
    rw [ha.det hb]
  · rename_i hc
    rw [if_neg hc] at k
    rw [h, k]
theorem TokAt.lt {R : Nat → Prop} {w : World} {v : Value} {L : List (Int × ByteArray × Int)} (h : TokAt R w v L) : TokAt (fun x => x < w.heap.size) w v L := by
  obtain ⟨a, c, e, h1, h2⟩ := h
  exact ⟨a, c, e, h1, fun h0 => by
    obtain ⟨g, o, x, y, z⟩ := h2 h0
    exact ⟨g, o, x, World.block_lt_of_cell? w _ (z 0 h0).1, z⟩⟩
theorem TokAt.takeK {R : Nat → Prop} {w : World} {a : Option Addr} {c : Nat} {L : List (Int × ByteArray × Int)} (h : TokAt R w (.slice a L.length c) L) (k : Nat) (hk : k ≤ L.length) : TokAt R w (.slice a (L.take k).length c) (L.take k) := by
  obtain ⟨a', c', e, h1, h2⟩ := h
  simp only [Value.slice.injEq] at e
  obtain ⟨rfl, -, rfl⟩ := e
  refine ⟨a, c, rfl, fun t ht => h1 t (List.mem_of_mem_take ht), fun h0 => ?_⟩
  have hl : (L.take k).length = k := by rw [List.length_take]; omega
  obtain ⟨g, o, x, y, z⟩ := h2 (by omega)
  refine ⟨g, o, x, y, fun j hj => ?_⟩
  have := z j (by omega)
  rw [List.getElem_take]
  exact this
/-- A list of tokens in memory, away from a block. -/
def LstAt (tb : Nat) (w : World) (v : Value) : Prop := ∃ (L : List (Int × ByteArray × Int)) (a : Option Addr) (c : Nat), v = .slice a L.length c ∧ L.length ≤ 1000000 ∧ TokAt (fun x => x ≠ tb) w (.slice a L.length c) L
theorem LstAt.keeps {tb : Nat} {w w' : World} {v : Value} (h : LstAt tb w v) (k : Keeps (· = tb) w w') : LstAt tb w' v := by
  obtain ⟨L, a, c, e, h1, h2⟩ := h
  exact ⟨L, a, c, e, h1, h2.keeps k (fun g hg => hg)⟩
theorem row_capE {w : World} {base : Nat} {e : TypeId} {size : Nat} {a : Option Addr} {n cap : Nat} {xs : List Value} (h : w.ownsRow base e size (.slice a n cap) n xs) : n ≤ cap ∧ cap ≤ maxLen := by
  rcases h.2 with ⟨h1, rfl⟩ | ⟨g, cap', cur, h1, _, _, h3, h4, _⟩
  · simp only [Value.slice.injEq] at h1
    obtain ⟨_, _, rfl⟩ := h1
    exact ⟨Nat.le_refl _, by unfold maxLen; omega⟩
  · simp only [Value.slice.injEq] at h1
    obtain ⟨_, _, rfl⟩ := h1
    exact ⟨h3, h4⟩
theorem ref_ReadK (s : ByteArray) (w : World) (hs : s.size ≤ maxLen) :
    Calls Tryz.prog 15 #[.string s, .int .i64 0] w fun e w' => ∃ (L : List (Int × ByteArray × Int)) (a : Option Addr) (cap : Nat) (p1 p2 p3 er : Int), e = .returned (.tuple #[.slice a L.length cap, .agg #[.int .i64 p1, .int .i64 p2, .int .i64 p3], .int .i64 er]) ∧
      L.length ≤ cap ∧ cap ≤ maxLen ∧ L.length ≤ 6001 ∧ TokAt (fun x => w.heap.size ≤ x) w' (.slice a L.length cap) L ∧ Below w.heap.size w w' := by
  refine (ref_Read s 0 w hs).mono ?_
  rintro e w' ⟨v, rfl, ho, hb⟩
  have htx := readT_text s.data.toList 0
  obtain ⟨a, cap, rfl⟩ := ownsRow_shape ho
  have hc := row_capE ho
  have hk := tokAt_row ho htx.1
  have e1 : (readT s.data.toList 0).1.length = ((readT s.data.toList 0).1.map tkX).length := by simp
  have hk2 : TokAt (fun x => w.heap.size ≤ x) w' (.slice a ((readT s.data.toList 0).1.map tkX).length cap) ((readT s.data.toList 0).1.map tkX) := by rw [← e1]; exact hk.mono (fun x h => h.1)
  exact ⟨(readT s.data.toList 0).1.map tkX, a, cap, _, _, _, _, by rw [← e1]; rfl, by rw [← e1]; exact hc.1, hc.2, by rw [← e1]; exact htx.2.1, hk2, hb⟩
def ValP (L : List (Int × ByteArray × Int)) (i : Int) (W : Wh) (w : World) (e : Ending) (w' : World) : Prop :=
  ∃ r1 r2 r3 : Int, e = .returned (.tuple #[.int .i64 r1, .int .i64 r2, .int .i64 r3]) ∧ Below w.heap.size w w' ∧ ValR L i W (r1, r2, r3)
theorem valP_of {L : List (Int × ByteArray × Int)} {i : Int} {W : Wh} {w : World} {e : Ending} {w' : World} (h : ValuePostX L i W w e w') : ValP L i W w e w' := by
  obtain ⟨⟨r1, r2, r3⟩, he, hb, hr⟩ := h
  exact ⟨r1, r2, r3, he, hb, hr⟩
theorem exp_ValueK (L : List (Int × ByteArray × Int)) (v : Value) (i : Int) (w : World) (hv : TokAt (fun x => x < w.heap.size) w v L) (hL : L.length ≤ 1000000) :
    Calls Tryz.prog 17 #[v, .int .i64 i] w (ValP L i .whole w) := (exp_Value L v i w hv (by omega)).mono fun _ _ h => valP_of h
theorem r2_ValueK (L : List (Int × ByteArray × Int)) (v : Value) (i : Int) (w : World) (hv : TokAt (fun x => x < w.heap.size) w v L) (hL : L.length ≤ 1000000) :
    Calls Tryz.prog 18 #[v, .int .i64 i] w (ValP L i .whole w) := (r2_Value L v i w hv (by omega)).mono fun _ _ h => valP_of h
theorem r2_PrimaryK (L : List (Int × ByteArray × Int)) (v : Value) (i : Int) (w : World) (hv : TokAt (fun x => x < w.heap.size) w v L) (hL : L.length ≤ 1000000) :
    Calls Tryz.prog 20 #[v, .int .i64 i] w (ValP L i .prim w) := (r2_PrimaryX L v i w hv (by omega)).mono fun _ _ h => valP_of h
theorem read_anyP (L : List (Int × ByteArray × Int)) (v : Value) (i : Int) (w : World) (hv : TokAt (fun x => x < w.heap.size) w v L) (hL : L.length ≤ 1000000000) :
    Calls Tryz.prog 44 #[v, .int .i64 i, .func (.func 48) #[] #[]] w (ValuePostX L i .prim w) := by
  by_cases hi : 0 ≤ i ∧ i < L.length
  · obtain ⟨k, rfl⟩ := Int.eq_ofNat_of_zero_le hi.1
    refine (exp_read_prim L v k w hv hL (by omega)).mono ?_
    rintro e w' ⟨res, hr, he, hb⟩
    exact ⟨outT res, he, hb, by rw [if_pos hi]; exact ⟨res, hr, rfl⟩⟩
  · refine (exp_read_out L v _ i w (by obtain ⟨a, c, h, _⟩ := hv; exact ⟨a, c, h⟩) hL (by omega)).mono ?_
    rintro e w' ⟨he, rfl⟩
    exact ⟨(0, 0, 2), he, Below.refl _ _, by rw [if_neg hi]⟩
theorem exp_PrimaryK (L : List (Int × ByteArray × Int)) (v : Value) (i : Int) (w : World) (hv : TokAt (fun x => x < w.heap.size) w v L) (hL : L.length ≤ 1000000) :
    Calls Tryz.prog 19 #[v, .int .i64 i] w (ValP L i .prim w) := by
  have h := read_anyP L v i w hv (by omega)
  go_enter Tryz.func19, Tryz.ntmps19
  go_wp2_with fail
  refine h.mono ?_
  rintro e w' ⟨⟨r1, r2, r3⟩, rfl, hb, hr⟩
  have HR := Lib.hid hr
  clear hr
  go_wp2_with fail
  go_ret3
  exact ⟨r1, r2, r3, rfl, hb, HR.out⟩
end Go.Proofs.YtiojnbhomjkkgaaGreatDoor

namespace Go.Proofs.YtiojnbhomjkkgaaGreatDoor
open Go.RowKit

set_option maxRecDepth 100000 in
set_option maxHeartbeats 16000000 in
theorem exAnswers_walk (a0 : Option Addr) (len0 cap0 : Nat) (raw : ByteArray) (a2 : Option Addr) (c2 : Nat) (T2 : List (Int × ByteArray × Int)) (ati n : Int) (w : World) (hi : IntsIn w a0 len0) (hlc : len0 ≤ cap0) (hcap : cap0 ≤ maxLen) (hnil : a0 = none → len0 = 0 ∧ cap0 = 0) (hs : raw.size ≤ maxLen)
    (hK2 : TokAt (fun x => x < w.heap.size) w (.slice a2 T2.length c2) T2 ∧ T2.length ≤ c2 ∧ c2 ≤ maxLen) (_ha : (Lit.int .i64 ati).wf = true) (_hn : (Lit.int .i64 n).wf = true) (h0 : Lay0 w) (hB : LayB w) :
    Calls Tryz.prog 3 #[.slice a0 len0 cap0, .string raw, .slice a2 T2.length c2, .int .i64 ati, .int .i64 n] w fun e w' => e = .returned (.bool true) ∧ Below w.heap.size w w' := by
  have hm := hs
  unfold maxLen at hs
  obtain ⟨hTK, hT2c, hc2⟩ := hK2
  unfold maxLen at hc2
  have l0 := h0
  have l1 := hB
  have LL := Lib.hid (show ∀ w', Below w.heap.size w w' → Lay0 w' ∧ LayB w' from fun w' hb => ⟨l0.keeps (Keeps.of_fresh hb (fun _ => False)) (fun e => e), l1.keeps (Keeps.of_fresh hb (fun _ => False)) (fun e => e)⟩)
  have HAW := Lib.hid (show ∀ w', Below w.heap.size w w' → Calls Tryz.prog 7 #[] w' fun e w2 => e = .returned (.bool true) ∧ Below w'.heap.size w' w2 from fun w' hb => law02_awake w' (LL.out w' hb).1 (LL.out w' hb).2)
  clear l0 l1 hB h0 _ha _hn
  by_cases hgo : raw.size ≤ 1000 ∧ T2.length ≤ 60
  · obtain ⟨hr2, hT4⟩ := hgo
    have hr2' : ¬ (1000 : Int) < (raw.size : Int) := by omega
    have hT4' : ¬ (60 : Int) < (T2.length : Int) := by omega
    have HTK := Lib.hid hTK
    clear hTK
    go_enter Tryz.func3, Tryz.ntmps3
    go_wp2_with fail
    refine (mk_New a0 len0 cap0 _ hi hlc hcap hnil).mono ?_
    rintro e w1 ⟨tb, rfl, hT1, hb1⟩
    have htb := hT1.1
    go_wp2_with fail
    refine (mk_Expression w.heap.size tb 3 (by omega) w1 hT1).mono ?_
    unfold ExPost
    rintro e w2 ⟨s, x, rfl, hX, hT2, hKa⟩
    have hx1 : (⟨s.toArray⟩ : ByteArray).size ≤ 1000 := by
      have hsl := hX.len
      have hL := xlen_small (show 3 ≤ 5 by omega)
      simp [ByteArray.size]; omega
    clear hX
    obtain ⟨x1, hx1e⟩ : ∃ x1, x1 = (⟨s.toArray⟩ : ByteArray) := ⟨_, rfl⟩
    rw [← hx1e] at hx1 ⊢
    clear hx1e
    go_wp2_with fail
    refine (mk_Spoil _ _ x1 _ hT2 (by omega)).mono ?_
    rintro e w3 ⟨x2, rfl, hx2, hT3, hKb⟩
    go_wp2_with fail
    refine (law02_signs _ _ 15 _ hT3 (by omega)).mono ?_
    rintro e w4 ⟨x3, rfl, hx3, hT4, hKc⟩
    go_wp2_with fail
    refine (law02_signs _ _ 9 _ hT4 (by omega)).mono ?_
    rintro e w5 ⟨x4, rfl, hx4, hT5, hKd⟩
    go_wp2_with fail
    refine (mk_Source _ _ 8 _ hT5 (by omega)).mono ?_
    rintro e w6 ⟨x5, rfl, hx5, hT6, hKe⟩
    have hKK : Keeps (· = tb) w1 w6 := (((hKa.trans hKb (fun _ _ h => h)).trans hKc (fun _ _ h => h)).trans hKd (fun _ _ h => h)).trans hKe (fun _ _ h => h)
    have hb6 : Below w.heap.size w w6 := hb1.trans (hKK.below hb1.size (by intro i hi; omega))
    have hs6 := hb6.size
    have hat := Lib.hid (six_atE raw x1 x2 x3 x4 x5 1000000 (by omega) (by omega) (by omega) (by omega) (by omega) (by omega))
    have htb6 := hT6.lt
    clear hT1 hT2 hT3 hT4 hT5 hKa hKb hKc hKd hKe hKK hb1 hx1 hx2 hx3 hx4 hx5 s
    go_wp2_with fail
    go_loopg [70] 6 (fun f y wr => ∃ k : Nat, k ≤ 6 ∧ 6 ≤ k + f ∧ y = .int .i64 k ∧ Tape w.heap.size wr tb ∧ Hid (Holds wr w6.heap.size #[.string raw, .string x1, .string x2, .string x3, .string x4, .string x5] 9) ∧ Hid (Below w.heap.size w wr))
    case atStart => exact ⟨0, by omega, by omega, rfl, hT6.keeps ((Keeps.refl (fun _ => False) w6).alloc _) (fun _ e => e.elim), Lib.hid (Holds.new w6 _ _), Lib.hid (hb6.alloc hs6 _)⟩
    case round =>
      obtain ⟨k, hk, hf, rfl, hT, HH, HB⟩ := hrel
      clear hT6
      by_cases hk6 : k < 6
      · obtain ⟨x, hx, hxs⟩ := hat.out k hk6
        have hc := cell_at HH.out hx
        have hlt := HH.out.lt
        have hbs := HB.out.size
        have hxm : x.size ≤ maxLen := by unfold maxLen; omega
        have HC1 := Lib.hid (fun wx hl => exp_Compute x wx hxm hl)
        have HC2 := Lib.hid (fun wx => r2_Compute x wx hxm)
        have HR := Lib.hid (fun wx => ref_ReadK x wx hxm)
        have HL := Lib.hid (LL.out wr HB.out)
        clear hx hxs hxm
        go_wp2_with fail
        refine (by exact HC1.out _ HL.out.1 : Calls _ _ _ _ _).mono ?_
        rintro e wa ⟨v, er, rfl, hca, hba⟩
        have HCA := Lib.hid hca
        have HBA := Lib.hid hba
        clear hca hba
        go_wp2_with fail
        refine (by exact HC2.out _ : Calls _ _ _ _ _).mono ?_
        rintro e wb ⟨v', er', rfl, hcb, hbb⟩
        obtain ⟨rfl, rfl⟩ := hcb.det HCA.out
        have HBB := Lib.hid (HBA.out.trans (hbb.mono HBA.out.size))
        clear hcb hbb HBA HCA
        go_wp2_with fail
        refine (by exact HR.out _ : Calls _ _ _ _ _).mono ?_
        rintro e wc ⟨L, la, lc, p1, p2, p3, er, rfl, hlc, hlm, hll, hlt2, hbc⟩
        unfold maxLen at hlm
        obtain ⟨hf0, hfe⟩ : ∃ h : Nat, (L.length : Int) / 2 = (h : Int) ∧ h ≤ L.length := ⟨L.length / 2, by omega, by omega⟩
        obtain ⟨hfe, hfl⟩ := hfe
        have hfc : (hf0 : Int) ≤ (lc : Int) := by omega
        have hbcA := (HBB.out.trans (hbc.mono HBB.out.size))
        have hbcB := hbcA.alloc (hbcA.size) (.cells #[.int .i64 p1, .int .i64 p2, .int .i64 p3] 38)
        have htw : tb < wb.heap.size := Nat.lt_of_lt_of_le hT.lt HBB.out.size
        have hsz9 := hbcB.size
        have hb9 := hbcB.alloc hsz9 (.cells #[.slice la L.length lc, .slice a2 T2.length c2, .slice la hf0 lc] 23)
        have hbc9 : Below wb.heap.size wb ((wc.alloc (.cells #[.int .i64 p1, .int .i64 p2, .int .i64 p3] 38)).alloc (.cells #[.slice la L.length lc, .slice a2 T2.length c2, .slice la hf0 lc] 23)) := (hbc.alloc hbc.size _).alloc (Nat.le_trans hbc.size (by simp)) _
        have hk9 : Keeps (fun _ => False) wc ((wc.alloc (.cells #[.int .i64 p1, .int .i64 p2, .int .i64 p3] 38)).alloc (.cells #[.slice la L.length lc, .slice a2 T2.length c2, .slice la hf0 lc] 23)) := ((Keeps.refl _ wc).alloc _).alloc _
        have hH9 := Holds.new (wc.alloc (.cells #[.int .i64 p1, .int .i64 p2, .int .i64 p3] 38)) #[.slice la L.length lc, .slice a2 T2.length c2, .slice la hf0 lc] 23
        have hgt : tb < (wc.alloc (.cells #[.int .i64 p1, .int .i64 p2, .int .i64 p3] 38)).heap.size := by have := hbc.size; simp; omega
        have hT9 := hT.keeps (Keeps.of_fresh (HBB.out.trans (hbc9.mono HBB.out.size)) (fun _ => False)) (fun _ e => e.elim)
        have hHH9 := HH.out.keeps (Keeps.of_fresh (HBB.out.trans (hbc9.mono HBB.out.size)) (fun _ => False)) (fun e => e)
        have hlist : ∀ j, j < 3 → ∃ v, (#[.slice la L.length lc, .slice a2 T2.length c2, .slice la hf0 lc] : Array Value)[j]? = some v ∧ LstAt tb ((wc.alloc (.cells #[.int .i64 p1, .int .i64 p2, .int .i64 p3] 38)).alloc (.cells #[.slice la L.length lc, .slice a2 T2.length c2, .slice la hf0 lc] 23)) v := by
          intro j hj
          have hq1 := (hlt2.mono (S := fun x => x ≠ tb) (fun x hx e => by omega)).keeps hk9 (fun _ _ e => e)
          have hj3 : j = 0 ∨ j = 1 ∨ j = 2 := by omega
          rcases hj3 with rfl | rfl | rfl
          · exact ⟨.slice la L.length lc, rfl, L, la, lc, rfl, by omega, hq1⟩
          · exact ⟨.slice a2 T2.length c2, rfl, T2, a2, c2, rfl, by omega, (HTK.out.mono (S := fun x => x ≠ tb ∧ x < w.heap.size) (fun x hx => ⟨by omega, hx⟩)).keeps (Keeps.of_fresh (HB.out.trans ((HBB.out.trans (hbc9.mono HBB.out.size)).mono HB.out.size)) (fun _ => False)) (fun _ _ e => e) |>.mono (fun x hx => hx.1)⟩
          · have hlen : (L.take hf0).length = hf0 := by rw [List.length_take]; omega
            have hq2 := hq1.takeK hf0 hfl
            exact ⟨.slice la hf0 lc, rfl, L.take hf0, la, lc, by rw [hlen], by rw [hlen]; omega, hq2⟩
        have hsz1 : (wc.alloc (.cells #[.int .i64 p1, .int .i64 p2, .int .i64 p3] 38)).heap.size = wc.heap.size + 1 := by simp
        rw [hsz1] at hH9 hgt
        clear hsz1
        have HL9 := Lib.hid hlist
        have HB9 := Lib.hid (HB.out.trans (hb9.mono HB.out.size))
        have HT9 := Lib.hid hT9
        have HH9 := Lib.hid hHH9
        have H39 := Lib.hid hH9
        have HGT := Lib.hid hgt
        clear hbc hbcA hbcB hlt2 HBB hb9 hbc9 hk9 hH9 hgt hT9 hHH9 hlist hc hT HH HB HL HC1 HC2 HR
        obtain ⟨go, rfl⟩ : ∃ x : Nat, x = gk := ⟨_, rfl⟩
        obtain ⟨wo, rfl⟩ : ∃ x : World, x = wr := ⟨_, rfl⟩
        go_wp2_with fail
        generalize (wc.alloc (.cells #[.int .i64 p1, .int .i64 p2, .int .i64 p3] 38)).alloc (.cells #[.slice la L.length lc, .slice a2 T2.length c2, .slice la hf0 lc] 23) = w9 at *
        generalize wc.heap.size + 1 = g3 at *
        go_loopg [107] 3 (fun f y wr => ∃ j : Nat, j ≤ 3 ∧ 3 ≤ j + f ∧ y = .int .i64 j ∧ Tape w.heap.size wr tb ∧ Hid (Keeps (· = tb) w9 wr))
        case atStart => exact ⟨0, by omega, by omega, rfl, HT9.out, Lib.hid (Keeps.refl _ _)⟩
        case round =>
          obtain ⟨j, hj, hfj, rfl, hT, HK⟩ := hrel
          have hne3 : ¬ g3 = tb := by have := HGT.out; omega
          by_cases hj3 : j < 3
          · obtain ⟨v, hv, hl⟩ := HL9.out j hj3
            obtain ⟨L2, b2, d2, rfl, hL2, hTk⟩ := hl.keeps HK.out
            have hh3 := H39.out.keeps HK.out hne3
            have hc3 := cell_at hh3 hv
            have hlt3 := hh3.lt
            have HTk := Lib.hid hTk
            clear hv hl hTk hh3
            go_wp2_with fail
            refine (mk_N _ _ ((L2.length : Int) + 1) _ hT (by omega) (by omega)).mono ?_
            rintro e wz ⟨z, rfl, z0, z1, hTz, hKz⟩
            have hgz := Holds.new wz #[.int .i64 ati, .int .i64 0, .int .i64 z] 3
            have hTz2 := hTz.keeps ((Keeps.refl (fun _ => False) wz).alloc (.cells #[.int .i64 ati, .int .i64 0, .int .i64 z] 3)) (fun _ e => e.elim)
            have hkz2 : Keeps (· = tb) w9 (wz.alloc (.cells #[.int .i64 ati, .int .i64 0, .int .i64 z] 3)) := (HK.out.trans hKz (fun _ _ h => h)).alloc _
            have htk2 := (HTk.out.keeps hKz (fun _ h => h)).keeps ((Keeps.refl (fun _ => False) wz).alloc (.cells #[.int .i64 ati, .int .i64 0, .int .i64 z] 3)) (fun _ _ e => e)
            have HTZ := Lib.hid hTz2
            have HKZ := Lib.hid hkz2
            have HGZ := Lib.hid hgz
            have HTK2 := Lib.hid htk2
            clear hgz hTz2 hkz2 htk2 hTz hKz hT hc3 hlt3 HTk HK
            obtain ⟨gm, rfl⟩ : ∃ x : Nat, x = gk := ⟨_, rfl⟩
            obtain ⟨wm, rfl⟩ : ∃ x : World, x = wr := ⟨_, rfl⟩
            go_wp2_with fail
            generalize wz.alloc (.cells #[.int .i64 ati, .int .i64 0, .int .i64 z] 3) = wy at *
            generalize wz.heap.size = gz at *
            go_loopg [119] 3 (fun f y wr => ∃ i : Nat, i ≤ 3 ∧ 3 ≤ i + f ∧ y = .int .i64 i ∧ Hid (Below wy.heap.size wy wr))
            case atStart => exact ⟨0, by omega, by omega, rfl, Lib.hid (Below.refl _ _)⟩
            case round =>
              obtain ⟨i, hi3, hfi, rfl, HB⟩ := hrel
              by_cases hi4 : i < 3
              · obtain ⟨q, hq⟩ := three_intE ati 0 z i hi4
                have hhz := HGZ.out.keeps (Keeps.of_fresh HB.out (fun _ => False)) (fun e => e)
                have hcz := cell_at hhz hq
                have hltz := hhz.lt
                have HX := Lib.hid (fun wx (hb : Below wy.heap.size wy wx) => (HTK2.out.keeps (Keeps.of_fresh hb (fun _ => False)) (fun _ _ e => e)).lt)
                have HV1 := Lib.hid (fun wx (hb : Below wy.heap.size wy wx) => exp_ValueK L2 (.slice b2 L2.length d2) q wx (HX.out wx hb) hL2)
                have HV2 := Lib.hid (fun wx (hb : Below wy.heap.size wy wx) => r2_ValueK L2 (.slice b2 L2.length d2) q wx (HX.out wx hb) hL2)
                have HV3 := Lib.hid (fun wx (hb : Below wy.heap.size wy wx) => exp_PrimaryK L2 (.slice b2 L2.length d2) q wx (HX.out wx hb) hL2)
                have HV4 := Lib.hid (fun wx (hb : Below wy.heap.size wy wx) => r2_PrimaryK L2 (.slice b2 L2.length d2) q wx (HX.out wx hb) hL2)
                clear hq hhz
                go_wp2_with fail
                refine (by exact HV1.out _ HB.out : Calls _ _ _ _ _).mono ?_
                rintro e wa ⟨r1, r2, r3, rfl, hba, hra⟩
                have HBA := Lib.hid (HB.out.trans (hba.mono HB.out.size))
                have HRA := Lib.hid hra
                clear hba hra
                go_wp2_with fail
                refine (by exact HV2.out _ HBA.out : Calls _ _ _ _ _).mono ?_
                rintro e wb2 ⟨s1, s2, s3, rfl, hbb, hrb⟩
                have hdt := HRA.out.det hrb
                simp only [Prod.mk.injEq] at hdt
                obtain ⟨rfl, rfl, rfl⟩ := hdt
                have HBB := Lib.hid (HBA.out.trans (hbb.mono HBA.out.size))
                clear hbb hrb HRA
                go_wp2_with fail
                refine (by exact HV3.out _ HBB.out : Calls _ _ _ _ _).mono ?_
                rintro e wc3 ⟨q1, q2, q3, rfl, hbc, hrc⟩
                have HBC2 := Lib.hid (HBB.out.trans (hbc.mono HBB.out.size))
                have HRC := Lib.hid hrc
                clear hbc hrc
                go_wp2_with fail
                refine (by exact HV4.out _ HBC2.out : Calls _ _ _ _ _).mono ?_
                rintro e wd ⟨s1, s2, s3, rfl, hbd, hrd⟩
                have hdt := HRC.out.det hrd
                simp only [Prod.mk.injEq] at hdt
                obtain ⟨rfl, rfl, rfl⟩ := hdt
                have HBD := Lib.hid (HBC2.out.trans (hbd.mono HBC2.out.size))
                clear hbd hrd HRC hcz hltz HX HV1 HV2 HV3 HV4
                go_wp2_with fail
                go_roundg (gk - 1)
                case measure => omega
                case rel => exact ⟨i + 1, by omega, by omega, by go_num, HBD⟩
              · have hi4I : ¬ (i : Int) < 3 := by omega
                go_wp2_with fail
                go_roundg (gm - 1)
                case measure => omega
                case rel => exact ⟨j + 1, by omega, by omega, by go_num, HTZ.out.keeps (Keeps.of_fresh HB.out (fun _ => False)) (fun _ e => e.elim), Lib.hid (HKZ.out.trans (Keeps.of_fresh HB.out (fun i => i = tb)) (fun _ _ h => h))⟩
          · have hj3I : ¬ (j : Int) < 3 := by omega
            go_wp2_with fail
            go_roundg (go - 1)
            case measure => omega
            case rel => exact ⟨k + 1, by omega, by omega, by go_num, hT, Lib.hid (HH9.out.keeps HK.out (by omega)), Lib.hid (HB9.out.trans (HK.out.below HB9.out.size (fun i hi e => by omega)))⟩
      · have hk6I : ¬ (k : Int) < 6 := by omega
        go_wp2_with fail
        refine (mk_Number _ _ _ hT).mono ?_
        rintro e wn ⟨z, rfl, z0, z1, hTn, hKn⟩
        have hbn : Below w.heap.size w (wn.alloc (.cells #[.int .i64 n, .int .i64 z, .int .i64 4294967295, .int .i64 4294967296, .int .i64 9, .int .i64 10] 3)) := (HB.out.trans (hKn.below HB.out.size (fun i hi e => by omega))).alloc (HB.out.trans (hKn.below HB.out.size (fun i hi e => by omega))).size _
        have hHn := Holds.new wn #[.int .i64 n, .int .i64 z, .int .i64 4294967295, .int .i64 4294967296, .int .i64 9, .int .i64 10] 3
        have HBN := Lib.hid hbn
        have HHN := Lib.hid hHn
        obtain ⟨go, rfl⟩ : ∃ x : Nat, x = gk := ⟨_, rfl⟩
        obtain ⟨wo, rfl⟩ : ∃ x : World, x = wr := ⟨_, rfl⟩
        clear hT hTn hKn hbn hHn HH
        go_wp2_with fail
        generalize wn.alloc (.cells #[.int .i64 n, .int .i64 z, .int .i64 4294967295, .int .i64 4294967296, .int .i64 9, .int .i64 10] 3) = wy at *
        generalize wn.heap.size = gz at *
        go_loopg [187] 6 (fun f y wr => ∃ i : Nat, i ≤ 6 ∧ 6 ≤ i + f ∧ y = .int .i64 i ∧ Hid (Below wy.heap.size wy wr))
        case atStart => exact ⟨0, by omega, by omega, rfl, Lib.hid (Below.refl _ _)⟩
        case round =>
          obtain ⟨i, hi3, hfi, rfl, HB2⟩ := hrel
          have HBW := Lib.hid (HBN.out.trans (HB2.out.mono HBN.out.size))
          by_cases hi4 : i < 6
          · obtain ⟨q, hq⟩ := six_intE n z 4294967295 4294967296 9 10 i hi4
            have hhz := HHN.out.keeps (Keeps.of_fresh HB2.out (fun _ => False)) (fun e => e)
            have hcz := cell_at hhz hq
            have hltz := hhz.lt
            have HF1 := Lib.hid (fun wx hx => exp_Format q wx hx)
            have HF2 := Lib.hid (fun wx => r2_Format q wx)
            generalize (⟨(formT q).toArray⟩ : ByteArray) = F at *
            clear hq hhz
            go_wp2_with fail
            refine (by exact HF1.out _ (LL.out _ HBW.out).2 : Calls _ _ _ _ _).mono ?_
            rintro e wa ⟨rfl, hba⟩
            have HBA := Lib.hid (HB2.out.trans (hba.mono HB2.out.size))
            clear hba
            go_wp2_with fail
            refine (by exact HF2.out _ : Calls _ _ _ _ _).mono ?_
            rintro e wb2 ⟨rfl, hbb⟩
            have HBB := Lib.hid (HBA.out.trans (hbb.mono HBA.out.size))
            clear hbb hcz hltz HF1 HF2
            go_wp2_with fail
            go_roundg (gk - 1)
            case measure => omega
            case rel => exact ⟨i + 1, by omega, by omega, by go_num, HBB⟩
          · have hi4I : ¬ (i : Int) < 6 := by omega
            go_wp2_with fail
            refine (HAW.out _ HBW.out).mono ?_
            rintro e w8 ⟨rfl, hb⟩
            go_wp2_with fail
            go_ret
            exact ⟨rfl, HBW.out.trans (hb.mono HBW.out.size)⟩
  · by_cases hr2 : 1000 < raw.size
    · have hr2' : (1000 : Int) < (raw.size : Int) := by omega
      clear hgo hTK
      go_enter Tryz.func3, Tryz.ntmps3
      go_wp2_with fail
      refine (HAW.out _ (Below.refl _ _)).mono ?_
      rintro e w1 ⟨rfl, hb⟩
      go_wp2_with fail
      go_ret
      exact ⟨rfl, hb⟩
    · have hr2' : ¬ (1000 : Int) < (raw.size : Int) := by omega
      have hT4' : (60 : Int) < (T2.length : Int) := by omega
      clear hgo hTK hr2
      go_enter Tryz.func3, Tryz.ntmps3
      go_wp2_with fail
      refine (HAW.out _ (Below.refl _ _)).mono ?_
      rintro e w1 ⟨rfl, hb⟩
      go_wp2_with fail
      go_ret
      exact ⟨rfl, hb⟩
end Go.Proofs.YtiojnbhomjkkgaaGreatDoor
