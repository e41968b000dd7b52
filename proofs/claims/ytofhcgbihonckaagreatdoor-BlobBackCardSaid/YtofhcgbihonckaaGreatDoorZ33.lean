/- Contracts of bringupref08 (Sum) and bringuplaw08 (put, sealed). | Contracts of bringuplaw08: sealed (printed by gsl.py). | Region 2 of bringuplaw08.crafted (printed by gcr.py). -/
import Derived.Test.YtofhcgbihonckaaGreatDoorZ19
import Derived.Deep.LoopGhost
import Derived.Test.YtofhcgbihonckaaGreatDoorZ2
import Derived.Test.YtofhcgbihonckaaGreatDoorZ16

set_option linter.unusedVariables false
set_option linter.unusedSimpArgs false
set_option linter.unusedSectionVars false

namespace Go.Proofs.YtofhcgbihonckaaGreatDoor
open Go.RowKit Go.ChangeMaps

set_option maxHeartbeats 2000000 in
theorem ref8_Sum (v : Value) (l : List UInt8) (w : World) (hl : BytesAt w v l) (hlen : l.length ≤ 1000000000) :
    Calls Tryz.prog 23 #[v] w fun e w' => e = .returned (.int .i64 (sumB l)) ∧ w = w' := by
  obtain ⟨a, cap, rfl, hc1, hc2, hat⟩ := hl
  have HA := Lib.hid hat; clear hat
  go_enter Tryz.func23, Tryz.ntmps23
  go_wp2_with fail
  go_loopg [3, 4] (l.length) (fun f x y wr => ∃ (k n : Nat), x = .int .i64 n ∧ y = .int .i64 k ∧ k ≤ l.length ∧ l.length ≤ k + f ∧ n < 4294967296 ∧ Hid (sumB l = sumA n k (l.drop k)) ∧ w = wr)
  case atStart => exact ⟨0, 0, rfl, rfl, by omega, by omega, by omega, rfl, rfl⟩
  case round =>
    obtain ⟨k, n, rfl, rfl, hk1, hk2, hn, hS, rfl⟩ := hrel
    by_cases hlt : k < l.length
    · obtain ⟨g, o, rfl, hcell⟩ := HA.out (by omega)
      have c0 := hcell k hlt
      have hstep := Lib.hid (show sumB l = sumA ((n + l[k].toNat * (k + 1)) % 4294967296) (k + 1) (l.drop (k + 1)) from by
        rw [hS.out, List.drop_eq_getElem_cons hlt]; rfl)
      have hb := UInt8.toNat_lt l[k]
      have g0 : (k : Int) < (l.length : Int) := by omega
      have j1 : ((k : Int) + 1) % 4294967296 = (k : Int) + 1 := by omega
      have j2 : ((k : Int) + 1).tmod 4294967296 = (k : Int) + 1 := by rw [Int.tmod_eq_emod_of_nonneg (by omega)]; omega
      clear hcell hS
      generalize l[k].toNat = c at *
      have hm : (k + 1) * c ≤ 1000000000 * 255 := Nat.mul_le_mul (by omega) (by omega)
      obtain ⟨m, hmm⟩ : ∃ m : Nat, m = (k + 1) * c := ⟨_, rfl⟩
      have hmi : ((k : Int) + 1) * (c : Int) = (m : Int) := by rw [hmm]; simp
      have hml : m ≤ 255000000000 := by omega
      have HM := Lib.hid hmm
      clear hm hmm
      go_wp2_with fail
      go_roundg (gk - 1)
      case measure => omega
      case rel =>
        refine ⟨k + 1, (n + c * (k + 1)) % 4294967296, ?_, by go_num, by omega, by omega, Nat.mod_lt _ (by omega), hstep.out, rfl⟩
        congr 1
        rw [show c * (k + 1) = m from by rw [HM.out, Nat.mul_comm]]
        omega
    · have hfin := Lib.hid (show sumB l = n from by rw [hS.out, List.drop_eq_nil_of_le (by omega)]; rfl)
      go_wp2_with fail
      go_ret
      exact ⟨by rw [hfin.out]; rfl, rfl⟩
theorem u8_wrap (r : Int) : ∃ z : UInt8, IntKind.u8.wrap r = (z.toNat : Int) := by
  refine ⟨UInt8.ofNat (r % 256).toNat, ?_⟩
  rw [IntKind.wrap_u8, UInt8.toNat_ofNat']
  omega
theorem u8_small (r : Int) (h0 : 0 ≤ r) (h1 : r ≤ 255) : ∃ z : UInt8, r = (z.toNat : Int) := by
  refine ⟨UInt8.ofNat r.toNat, ?_⟩
  rw [UInt8.toNat_ofNat']
  omega
set_option maxRecDepth 100000 in
set_option maxHeartbeats 2000000 in
theorem law08_put (base g c : Nat) (l : List UInt8) (at_ : Nat) (n : Int) (w : World) (h : Bts w base (.slice (some ⟨g, 0, none⟩) l.length c) l) (ha : at_ + 4 ≤ l.length) (hL : l.length ≤ 1000000) (hn : 0 ≤ n) (hn2 : n ≤ 4294967295) :
    Calls Tryz.prog 37 #[.slice (some ⟨g, 0, none⟩) l.length c, .int .i64 at_, .int .i64 n] w fun e w' =>
      (∃ x, e = .returned x) ∧ (∃ l', l'.length = l.length ∧ Bts w' base (.slice (some ⟨g, 0, none⟩) l.length c) l') ∧ Keeps (· = g) w w' := by
  obtain ⟨_, cur, hH⟩ := bts_holds h rfl
  have hgl := hH.lt
  have f0 := hH.free at_
  have i0 : ((at_ : Nat) : Int) < (l.length : Int) := by omega
  have i1 : ((at_ : Nat) : Int) + 1 < (l.length : Int) := by omega
  have i2 : ((at_ : Nat) : Int) + 2 < (l.length : Int) := by omega
  have i3 : ((at_ : Nat) : Int) + 3 < (l.length : Int) := by omega
  have hz := h.read
  obtain ⟨a', c', e1, -, -, hcell⟩ := hz
  cases e1
  obtain ⟨gx, ox, e1, hcell2⟩ := hcell (by omega)
  cases e1
  have c0 := hcell2 at_ (by omega)
  have c1 := hcell2 (at_ + 1) (by omega)
  have c2 := hcell2 (at_ + 2) (by omega)
  have c3 := hcell2 (at_ + 3) (by omega)
  have f1 := hH.free (at_ + 1)
  have f2 := hH.free (at_ + 2)
  have f3 := hH.free (at_ + 3)
  rw [Nat.zero_add] at c0 c1 c2 c3
  have HH := Lib.hid h
  clear hcell hcell2 hH h
  go_enter Tryz.func37, Tryz.ntmps37
  obtain ⟨z0, hz0⟩ := u8_small (n / 16777216) (by omega) (by omega)
  obtain ⟨z1, hz1⟩ := u8_small (n / 65536 % 256) (by omega) (by omega)
  obtain ⟨z2, hz2⟩ := u8_small (n / 256 % 256) (by omega) (by omega)
  obtain ⟨z3, hz3⟩ := u8_small (n % 256) (by omega) (by omega)
  have p0 := HH.out.put at_ z0
  have p1 := Bts.put (l := l.set at_ z0) (by exact p0) (at_ + 1) z1
  have p2 := Bts.put (l := (l.set at_ z0).set (at_ + 1) z1) (by exact p1) (at_ + 2) z2
  have p3 := Bts.put (l := ((l.set at_ z0).set (at_ + 1) z1).set (at_ + 2) z2) (by exact p2) (at_ + 3) z3
  simp only [List.length_set] at p3
  have HF := Lib.hid p3
  have HZ0 := Lib.hid hz0
  have HZ1 := Lib.hid hz1
  have HZ2 := Lib.hid hz2
  have HZ3 := Lib.hid hz3
  clear p0 p1 p2 p3 hz0 hz1 hz2 hz3
  go_wp2_with fail
  rw [HZ0.out, HZ1.out, HZ2.out, HZ3.out]
  have HK := Lib.hid (((((Keeps.refl (· = g) w).setCell (p := ⟨g, at_, none⟩) (.inr rfl) (.int .u8 (z0.toNat : Int))).setCell (p := ⟨g, at_ + 1, none⟩) (.inr rfl) (.int .u8 (z1.toNat : Int))).setCell (p := ⟨g, at_ + 2, none⟩) (.inr rfl) (.int .u8 (z2.toNat : Int))).setCell (p := ⟨g, at_ + 3, none⟩) (.inr rfl) (.int .u8 (z3.toNat : Int)))
  exact bodyPost_end (v := .tuple #[]) (by simp [results, Tryz.results37, go_sem]) rfl ⟨⟨_, rfl⟩, ⟨_, by simp, HF.out⟩, HK.out⟩
theorem put28 (base g : Nat) (l : List UInt8) (at_ : Nat) (n : Int) (w : World) (hl : l.length = 28) (h : Bts w base (.slice (some ⟨g, 0, none⟩) 28 28) l) (ha : at_ + 4 ≤ 28) (hn : 0 ≤ n) (hn2 : n ≤ 4294967295) :
    Calls Tryz.prog 37 #[.slice (some ⟨g, 0, none⟩) 28 28, .int .i64 at_, .int .i64 n] w fun e w' =>
      (∃ x, e = .returned x) ∧ (∃ l', l'.length = 28 ∧ Bts w' base (.slice (some ⟨g, 0, none⟩) 28 28) l') ∧ Keeps (· = g) w w' := by
  have := law08_put base g 28 l at_ n w (by rw [hl]; exact h) (by rw [hl]; exact ha) (by omega) hn hn2
  rw [hl] at this
  exact this
theorem make28 (wx : World) : (Instr.makeSlice 26 (.int .i64 28) (.int .i64 28)).run Tryz.prog wx = .ok (.slice (some ⟨wx.heap.size, 0, none⟩) 28 28) (wx.alloc (.cells (Array.replicate 28 (.int .u8 0)) 5)) := by
  obtain ⟨i0, hi, hz0, hz1, hz2⟩ := info_parts infoU8
  have := run_make (P := Tryz.prog) wx 26 5 i0 _ Tryz.underlying26 hi hz0 .i64 .i64 (28 : Nat) (28 : Nat) (by omega) (by omega) (by rw [hz2]; omega) (by omega)
  rw [hz1, show (Value.int .u8 0).cells = #[.int .u8 0] from rfl] at this
  simpa [madeCells_one] using this
end Go.Proofs.YtofhcgbihonckaaGreatDoor

namespace Go.Proofs.YtofhcgbihonckaaGreatDoor
open Go.RowKit Go.ChangeMaps

theorem BytesAt.below {w w' : World} {v : Value} {l : List UInt8} (h : BytesAt w v l) (k : Below w.heap.size w w') : BytesAt w' v l := h.new k
/-- What sealed leaves: some bytes. -/
def SlPost (n : Nat) (w : World) (e : Ending) (w' : World) : Prop := ∃ v l, e = .returned v ∧ l.length = n ∧ Bts w' w.heap.size v l ∧ Below w.heap.size w w'
set_option maxRecDepth 100000 in
set_option maxHeartbeats 4000000 in
theorem law08_sealed (v u : Value) (st sn : List UInt8) (w : World) (hv : BytesAt w v st) (hu : BytesAt w u sn) (h1 : st.length ≤ 100000) (h2 : sn.length ≤ 100000) :
    Calls Tryz.prog 18 #[v, u] w (SlPost (28 + st.length + sn.length) w) := by
  obtain ⟨va, vc, hve⟩ : ∃ a c, v = .slice a st.length c := by obtain ⟨a, c, e, _⟩ := hv.shape; exact ⟨a, c, e⟩
  obtain ⟨ua, uc, hue⟩ : ∃ a c, u = .slice a sn.length c := by obtain ⟨a, c, e, _⟩ := hu.shape; exact ⟨a, c, e⟩
  subst hve
  subst hue
  have HV := Lib.hid hv
  have HU := Lib.hid hu
  have hmk := make28
  have hb1 : Bts (w.alloc (.cells (Array.replicate 28 (.int .u8 0)) 5)) w.heap.size (.slice (some ⟨w.heap.size, 0, none⟩) 28 28) (List.replicate 28 0) := by
    have := row_built (w := w) (B := w.heap.size) (base := w.heap.size) (e := 5) (size := 1) (n := 28) (cs := Array.replicate 28 (.int .u8 0)) rfl (Nat.le_refl _) (by simp) (by omega)
    unfold Bts
    rw [List.length_replicate, show Lib.byteCells (List.replicate 28 0) = (Array.replicate 28 (Value.int .u8 0)).toList from by simp [Lib.byteCells]]
    exact this
  have hB1 : Below w.heap.size w (w.alloc (.cells (Array.replicate 28 (.int .u8 0)) 5)) := (Below.refl _ _).alloc (Nat.le_refl _) _
  obtain ⟨l1, hl1e⟩ : ∃ l1 : List UInt8, l1 = List.replicate 28 0 := ⟨_, rfl⟩
  have hl1 : l1.length = 28 := by rw [hl1e, List.length_replicate]
  rw [← hl1e] at hb1
  clear hl1e hv hu
  go_enter Tryz.func18, Tryz.ntmps18
  go_wp2_with fail
  obtain ⟨gb, hgb⟩ : ∃ gb, gb = w.heap.size := ⟨_, rfl⟩
  have HGB := Lib.hid hgb
  rw [show (Value.slice (some ⟨w.heap.size, 0, none⟩) 28 28) = Value.slice (some ⟨gb, 0, none⟩) 28 28 from by rw [hgb]] at hb1 ⊢
  have hgle : w.heap.size ≤ gb := by omega
  clear hgb hmk
  generalize w.alloc (.cells (Array.replicate 28 (.int .u8 0)) 5) = w1 at *
  refine (put28 w.heap.size gb l1 0 3490578157 _ hl1 (by exact hb1) (by omega) (by omega) (by omega)).mono ?_
  rintro e w2 ⟨⟨x2, rfl⟩, ⟨l2, hl2, hb2⟩, hk2⟩
  have hB2 : Below w.heap.size w w2 := hB1.trans (hk2.below hB1.size (fun i hi e => by have e2 : i = gb := e; omega))
  clear hb1 hk2 hB1
  go_wp2_with fail
  refine (put28 w.heap.size gb l2 4 (28 + (st.length : Int) + (sn.length : Int)) _ hl2 (by exact hb2) (by omega) (by omega) (by omega)).mono ?_
  rintro e w3 ⟨⟨x3, rfl⟩, ⟨l3, hl3, hb3⟩, hk3⟩
  have hB3 : Below w.heap.size w w3 := hB2.trans (hk3.below hB2.size (fun i hi e => by have e2 : i = gb := e; omega))
  clear hb2 hk3 hB2
  go_wp2_with fail
  refine (put28 w.heap.size gb l3 8 (st.length : Int) _ hl3 (by exact hb3) (by omega) (by omega) (by omega)).mono ?_
  rintro e w4 ⟨⟨x4, rfl⟩, ⟨l4, hl4, hb4⟩, hk4⟩
  have hB4 : Below w.heap.size w w4 := hB3.trans (hk4.below hB3.size (fun i hi e => by have e2 : i = gb := e; omega))
  clear hb3 hk4 hB3
  go_wp2_with fail
  refine (put28 w.heap.size gb l4 12 (sn.length : Int) _ hl4 (by exact hb4) (by omega) (by omega) (by omega)).mono ?_
  rintro e w5 ⟨⟨x5, rfl⟩, ⟨l5, hl5, hb5⟩, hk5⟩
  have hB5 : Below w.heap.size w w5 := hB4.trans (hk5.below hB4.size (fun i hi e => by have e2 : i = gb := e; omega))
  clear hb4 hk5 hB4
  go_wp2_with fail
  refine (ref8_Sum (.slice va st.length vc) st _ (HV.out.new hB5) (by omega)).mono ?_
  rintro e w5' ⟨rfl, rfl⟩
  go_wp2_with fail
  have hsv := sumB_lt st
  refine (put28 w.heap.size gb l5 16 (sumB st : Int) _ hl5 (by exact hb5) (by omega) (by omega) (by omega)).mono ?_
  rintro e w6 ⟨⟨x6, rfl⟩, ⟨l6, hl6, hb6⟩, hk6⟩
  have hB6 : Below w.heap.size w w6 := hB5.trans (hk6.below hB5.size (fun i hi e => by have e2 : i = gb := e; omega))
  clear hb5 hk6 hB5
  go_wp2_with fail
  refine (ref8_Sum (.slice ua sn.length uc) sn _ (HU.out.new hB6) (by omega)).mono ?_
  rintro e w6' ⟨rfl, rfl⟩
  go_wp2_with fail
  have hsu := sumB_lt sn
  refine (put28 w.heap.size gb l6 20 (sumB sn : Int) _ hl6 (by exact hb6) (by omega) (by omega) (by omega)).mono ?_
  rintro e w7 ⟨⟨x7, rfl⟩, ⟨l7, hl7, hb7⟩, hk7⟩
  have hB7 : Below w.heap.size w w7 := hB6.trans (hk7.below hB6.size (fun i hi e => by have e2 : i = gb := e; omega))
  clear hb6 hk7 hB6
  go_wp2_with fail
  have hr24 : BytesAt w7 (.slice (some ⟨gb, 0, none⟩) 24 28) (l7.take 24) := by
    have := bytes_win (w := w7) (g := gb) (o := 0) (c := 28) (l := l7) (by rw [hl7]; exact hb7.read) 0 24 (by omega)
    simpa using this
  refine (ref8_Sum _ (l7.take 24) _ hr24 (by rw [List.length_take]; omega)).mono ?_
  rintro e w7' ⟨rfl, rfl⟩
  go_wp2_with fail
  have hs24 := sumB_lt (l7.take 24)
  refine (put28 w.heap.size gb l7 24 (sumB (l7.take 24) : Int) _ hl7 (by exact hb7) (by omega) (by omega) (by omega)).mono ?_
  rintro e w8 ⟨⟨x8, rfl⟩, ⟨l8, hl8, hb8⟩, hk8⟩
  have hB8 : Below w.heap.size w w8 := hB7.trans (hk8.below hB7.size (fun i hi e => by have e2 : i = gb := e; omega))
  clear hb7 hk8 hB7
  obtain ⟨i0, hin, hz0, hz1, hz2⟩ := info_parts infoU8
  have hs8 := hB8.size
  have HB8 := Lib.hid hB8
  have hb8x : w8.ownsRow w.heap.size 5 1 (.slice (some ⟨gb, 0, none⟩) 28 28) 28 (Lib.byteCells l8) := by have hx := hb8; unfold Bts at hx; rw [hl8] at hx; exact hx
  go_wp2_with (at_builtin; refine wpList_append_src _ rfl _ _ 26 26 rfl w.heap.size 5 i0 (.int .u8 0) 1 1 Tryz.underlying26 hin hz0 hz1 hz2 rfl _ 28 (Lib.byteCells l8) rfl (by exact hb8x) _ rfl st.length (Lib.byteCells st) ?c1 ?c2 ?c3 ?c4 ?_)
  case c1 => exact (HV.out.new HB8.out).src
  case c2 => unfold maxLen; omega
  case c3 => omega
  case c4 => omega
  intro v9 w9 hown9 hgrow9 hat9
  have hb9 : Bts w9 w.heap.size v9 (l8 ++ st) := by
    unfold Bts
    rw [List.length_append, hl8, show Lib.byteCells (l8 ++ st) = Lib.byteCells l8 ++ Lib.byteCells st from by simp [Lib.byteCells]]
    exact hown9
  have hk9 : Keeps (fun i => w.heap.size ≤ i) w8 w9 := Keeps.of_grown hgrow9 (fun i e => (hb8.lt i e).1)
  have HB9 := Lib.hid (HB8.out.trans (hk9.below hs8 (fun i hi e => by omega)))
  obtain ⟨a9, c9, rfl⟩ := hb9.shape
  have hs9 := HB9.out.size
  have hl9 : (l8 ++ st).length = 28 + st.length := by rw [List.length_append, hl8]
  obtain ⟨m9, hm9⟩ : ∃ m9, m9 = l8 ++ st := ⟨_, rfl⟩
  rw [← hm9] at hb9 hl9 ⊢
  have HM9 := Lib.hid hm9
  have HL9 := Lib.hid hl9
  have hm9b : m9.length ≤ 200000 := by omega
  clear hown9 hgrow9 hat9 hk9 hb8 hb8x hB8 hm9 hl9
  go_wp2_with (at_builtin; refine wpList_append_src _ rfl _ _ 26 26 rfl w.heap.size 5 i0 (.int .u8 0) 1 1 Tryz.underlying26 hin hz0 hz1 hz2 rfl _ m9.length (Lib.byteCells m9) rfl (by exact hb9) _ rfl sn.length (Lib.byteCells sn) ?d1 ?d2 ?d3 ?d4 ?_)
  case d1 => exact (HU.out.new HB9.out).src
  case d2 => unfold maxLen; omega
  case d3 => omega
  case d4 => omega
  intro v10 w10 hown10 hgrow10 hat10
  have hb10 : Bts w10 w.heap.size v10 (m9 ++ sn) := by
    unfold Bts
    rw [List.length_append, show Lib.byteCells (m9 ++ sn) = Lib.byteCells m9 ++ Lib.byteCells sn from by simp [Lib.byteCells]]
    exact hown10
  have hk10 : Keeps (fun i => w.heap.size ≤ i) w9 w10 := Keeps.of_grown hgrow10 (fun i e => (hb9.lt i e).1)
  have HF := Lib.hid (show SlPost (28 + st.length + sn.length) w (.returned v10) w10 from ⟨v10, m9 ++ sn, rfl, by rw [List.length_append, HL9.out], hb10, HB9.out.trans (hk10.below hs9 (fun i hi e => by omega))⟩)
  clear hown10 hgrow10 hat10 hk10 hb10
  go_wp2_with fail
  go_ret
  exact HF.out
end Go.Proofs.YtofhcgbihonckaaGreatDoor

namespace Go.Proofs.YtofhcgbihonckaaGreatDoor
open Go.RowKit Go.ChangeMaps

noncomputable def lbrOps : Array Oper := (regOps (Tryz.f17.body.getD .skip) 2).getD #[]
theorem lbrR : inRow2 .any lbrOps = true := by kernel_rfl
theorem lbrRa : apartB lbrOps = true := by kernel_rfl
theorem lbrRn : lbrOps.size = 14 := by kernel_rfl
def LbrF (base : Nat) (vv va vb : Value) (m : Nat) (A C : List UInt8) (P0 P5 P6 P11 : Nat) (d q : Bool) (j : Nat) : Value → World → Prop := match j with
  | 0 => fun u w => u = .slice (some ⟨P0, 0, none⟩) 0 0 ∧ P0 < w.heap.size ∧ (d = false → w.ownsRow base 5 1 u 0 [])
  | 1 => fun u _ => u = vv
  | 2 => fun u _ => u = .int .i64 (m : Int)
  | 3 => fun u _ => u = .int .i64 (28 + (m : Int))
  | 4 => fun u _ => u = va
  | 5 => fun u w => Bts w base u A ∧ u.ownBlock = some P5
  | 6 => fun u w => u = .slice (some ⟨P6, 0, none⟩) 0 0 ∧ P6 < w.heap.size ∧ (q = false → w.ownsRow base 5 1 u 0 [])
  | 7 => fun u _ => u = vv
  | 8 => fun u _ => u = .int .i64 (m : Int)
  | 9 => fun u _ => u = .int .i64 (28 + (m : Int))
  | 10 => fun u _ => u = vb
  | 11 => fun u w => Bts w base u C ∧ u.ownBlock = some P11
  | 12 => fun u w => Bts w base u A ∧ u.ownBlock = some P5
  | 13 => fun u w => Bts w base u C ∧ u.ownBlock = some P11
  | _ => fun _ _ => True
/-- The two copies lie apart. -/
structure Ap (l : Array Bool) (P0 P5 P6 P11 : Nat) : Prop where
  h06 : l.getD 0 false = true → l.getD 6 false = true → P0 ≠ P6
  h0b : l.getD 0 false = true → l.getD 11 false = true → P0 ≠ P11
  h56 : l.getD 5 false = true → l.getD 6 false = true → P5 ≠ P6
  h5b : l.getD 5 false = true → l.getD 11 false = true → P5 ≠ P11
theorem Ap.other {l : Array Bool} {P0 P5 P6 P11 j : Nat} (h : Ap l P0 P5 P6 P11) (n0 : j ≠ 0) (n5 : j ≠ 5) (n6 : j ≠ 6) (nb : j ≠ 11) : Ap (l.setIfInBounds j true) P0 P5 P6 P11 := by
  constructor
  all_goals rw [set_other (by assumption), set_other (by assumption)]
  · exact h.h06
  · exact h.h0b
  · exact h.h56
  · exact h.h5b
theorem Ap.at0 {l : Array Bool} {P0 P5 P6 P11 H : Nat} (h : Ap l P0 P5 P6 P11) (l6 : l.getD 6 false = true → P6 < H) (lb : l.getD 11 false = true → P11 < H) : Ap (l.setIfInBounds 0 true) H P5 P6 P11 := by
  constructor
  · intro _ e; rw [set_other (by decide)] at e; have := l6 e; omega
  · intro _ e; rw [set_other (by decide)] at e; have := lb e; omega
  · rw [set_other (by decide), set_other (by decide)]; exact h.h56
  · rw [set_other (by decide), set_other (by decide)]; exact h.h5b
theorem Ap.at6 {l : Array Bool} {P0 P5 P6 P11 H : Nat} (h : Ap l P0 P5 P6 P11) (l0 : l.getD 0 false = true → P0 < H) (l5 : l.getD 5 false = true → P5 < H) : Ap (l.setIfInBounds 6 true) P0 P5 H P11 := by
  constructor
  · intro e _; rw [set_other (by decide)] at e; have := l0 e; omega
  · rw [set_other (by decide), set_other (by decide)]; exact h.h0b
  · intro e _; rw [set_other (by decide)] at e; have := l5 e; omega
  · rw [set_other (by decide), set_other (by decide)]; exact h.h5b
theorem Ap.at5 {l : Array Bool} {P0 P5 P6 P11 H N : Nat} (h : Ap l P0 P5 P6 P11) (y0 : l.getD 0 false = true) (hN : N = P0 ∨ N = H) (l6 : l.getD 6 false = true → P6 < H) (lb : l.getD 11 false = true → P11 < H) : Ap (l.setIfInBounds 5 true) P0 N P6 P11 := by
  constructor
  · rw [set_other (by decide), set_other (by decide)]; exact h.h06
  · rw [set_other (by decide), set_other (by decide)]; exact h.h0b
  · intro _ e; rw [set_other (by decide)] at e; have := l6 e; have := h.h06 y0 e; omega
  · intro _ e; rw [set_other (by decide)] at e; have := lb e; have := h.h0b y0 e; omega
theorem Ap.at11 {l : Array Bool} {P0 P5 P6 P11 H N : Nat} (h : Ap l P0 P5 P6 P11) (y6 : l.getD 6 false = true) (hN : N = P6 ∨ N = H) (l0 : l.getD 0 false = true → P0 < H) (l5 : l.getD 5 false = true → P5 < H) : Ap (l.setIfInBounds 11 true) P0 P5 P6 N := by
  constructor
  · rw [set_other (by decide), set_other (by decide)]; exact h.h06
  · intro e _; rw [set_other (by decide)] at e; have := l0 e; have := h.h06 e y6; omega
  · rw [set_other (by decide), set_other (by decide)]; exact h.h56
  · intro e _; rw [set_other (by decide)] at e; have := l5 e; have := h.h56 e y6; omega
section
variable {base : Nat} {vv va vb : Value} {m : Nat} {A C : List UInt8} {P0 P5 P6 P11 : Nat} {d q : Bool} {w w' : World} {l : Array Bool} {c Ac : Act} {S : World → Prop}
theorem LbrF.new {j : Nat} {u : Value} (h : LbrF base vv va vb m A C P0 P5 P6 P11 d q j u w) (k : Below w.heap.size w w') : LbrF base vv va vb m A C P0 P5 P6 P11 d q j u w' := by
  unfold LbrF at *
  split at h
  all_goals first
    | exact h
    | exact ⟨h.1, Nat.lt_of_lt_of_le h.2.1 k.size, fun e => row_new (h.2.2 e) k⟩
    | exact ⟨row_new (show World.ownsRow _ _ _ _ _ _ _ from h.1) k, h.2⟩
theorem LbrF.gh0 {P : Nat} {j : Nat} {u : Value} (h : LbrF base vv va vb m A C P0 P5 P6 P11 d q j u w) (n0 : j ≠ 0) : LbrF base vv va vb m A C P P5 P6 P11 d q j u w := by
  unfold LbrF at *
  split at h
  all_goals first
    | exact h
    | exact absurd rfl n0
theorem LbrF.gh6 {P : Nat} {j : Nat} {u : Value} (h : LbrF base vv va vb m A C P0 P5 P6 P11 d q j u w) (n0 : j ≠ 6) : LbrF base vv va vb m A C P0 P5 P P11 d q j u w := by
  unfold LbrF at *
  split at h
  all_goals first
    | exact h
    | exact absurd rfl n0
theorem LbrF.gh5 {P : Nat} {j : Nat} {u : Value} (h : LbrF base vv va vb m A C P0 P5 P6 P11 d q j u w) (n0 : j ≠ 5) (n1 : j ≠ 12) : LbrF base vv va vb m A C P0 P P6 P11 true q j u w := by
  unfold LbrF at *
  split at h
  all_goals first
    | exact h
    | exact absurd rfl n0
    | exact absurd rfl n1
    | exact ⟨h.1, h.2.1, fun e => Bool.noConfusion e⟩
theorem LbrF.gh11 {P : Nat} {j : Nat} {u : Value} (h : LbrF base vv va vb m A C P0 P5 P6 P11 d q j u w) (n0 : j ≠ 11) (n1 : j ≠ 13) : LbrF base vv va vb m A C P0 P5 P6 P d true j u w := by
  unfold LbrF at *
  split at h
  all_goals first
    | exact h
    | exact absurd rfl n0
    | exact absurd rfl n1
    | exact ⟨h.1, h.2.1, fun e => Bool.noConfusion e⟩
theorem LbrF.grown5 {N : Nat} {j : Nat} {u : Value} (h : LbrF base vv va vb m A C P0 N P6 P11 true q j u w) (k : Keeps (fun i => i = P0) w w') (ha : j ≠ 5 ∧ j ≠ 12 ∧ (j = 6 → P0 ≠ P6) ∧ (j = 11 ∨ j = 13 → P0 ≠ P11)) : LbrF base vv va vb m A C P0 N P6 P11 true q j u w' := by
  unfold LbrF at *
  split at h
  all_goals first
    | exact h
    | exact absurd rfl ha.1
    | exact absurd rfl ha.2.1
    | exact ⟨h.1, Nat.lt_of_lt_of_le h.2.1 k.size, fun e => Bool.noConfusion e⟩
    | exact ⟨h.1, Nat.lt_of_lt_of_le h.2.1 k.size, fun e => ownsRow_keeps (h.2.2 e) k (fun g hg e2 => by rw [h.1] at hg; have e3 : P6 = g := Option.some.inj hg; have e4 : g = P0 := e2; exact ha.2.2.1 rfl (by omega))⟩
    | exact ⟨h.1.keeps k (fun g hg e2 => by rw [h.2] at hg; have e3 : P11 = g := Option.some.inj hg; have e4 : g = P0 := e2; exact ha.2.2.2 (by omega) (by omega)), h.2⟩
theorem LbrF.grown11 {N : Nat} {j : Nat} {u : Value} (h : LbrF base vv va vb m A C P0 P5 P6 N d true j u w) (k : Keeps (fun i => i = P6) w w') (ha : j ≠ 11 ∧ j ≠ 13 ∧ (j = 0 → P6 ≠ P0) ∧ (j = 5 ∨ j = 12 → P6 ≠ P5)) : LbrF base vv va vb m A C P0 P5 P6 N d true j u w' := by
  unfold LbrF at *
  split at h
  all_goals first
    | exact h
    | exact absurd rfl ha.1
    | exact absurd rfl ha.2.1
    | exact ⟨h.1, Nat.lt_of_lt_of_le h.2.1 k.size, fun e => Bool.noConfusion e⟩
    | exact ⟨h.1, Nat.lt_of_lt_of_le h.2.1 k.size, fun e => ownsRow_keeps (h.2.2 e) k (fun g hg e2 => by rw [h.1] at hg; have e3 : P0 = g := Option.some.inj hg; have e4 : g = P6 := e2; exact ha.2.2.1 rfl (by omega))⟩
    | exact ⟨h.1.keeps k (fun g hg e2 => by rw [h.2] at hg; have e3 : P5 = g := Option.some.inj hg; have e4 : g = P6 := e2; exact ha.2.2.2 (by omega) (by omega)), h.2⟩
theorem lbr_lt0 (hI : RInv lbrOps Ac (LbrF base vv va vb m A C P0 P5 P6 P11 d q) S l c w) (y : l.getD 0 false = true) : P0 < w.heap.size := by
  have h : c.tmps.getD 31 undef = .slice (some ⟨P0, 0, none⟩) 0 0 ∧ P0 < w.heap.size ∧ _ := hI.fact 0 31 rfl y
  exact h.2.1
theorem lbr_lt6 (hI : RInv lbrOps Ac (LbrF base vv va vb m A C P0 P5 P6 P11 d q) S l c w) (y : l.getD 6 false = true) : P6 < w.heap.size := by
  have h : c.tmps.getD 37 undef = .slice (some ⟨P6, 0, none⟩) 0 0 ∧ P6 < w.heap.size ∧ _ := hI.fact 6 37 rfl y
  exact h.2.1
theorem lbr_lt5 (hI : RInv lbrOps Ac (LbrF base vv va vb m A C P0 P5 P6 P11 d q) S l c w) (y : l.getD 5 false = true) : P5 < w.heap.size := by
  have h : Bts w base (c.tmps.getD 36 undef) A ∧ (c.tmps.getD 36 undef).ownBlock = some P5 := hI.fact 5 36 rfl y
  exact (h.1.lt _ h.2).2
theorem lbr_lt11 (hI : RInv lbrOps Ac (LbrF base vv va vb m A C P0 P5 P6 P11 d q) S l c w) (y : l.getD 11 false = true) : P11 < w.heap.size := by
  have h : Bts w base (c.tmps.getD 42 undef) C ∧ (c.tmps.getD 42 undef).ownBlock = some P11 := hI.fact 11 42 rfl y
  exact (h.1.lt _ h.2).2
theorem lbr_b {F : Nat → Value → World → Prop} (hI : RInv lbrOps Ac F S l c w) (y : l.getD 13 false = true) : l.getD 11 false = true := by
  cases p : l.getD 11 false with
  | true => rfl
  | false => rw [hI.2.2.1.2.unlisted p (j := 13) (by kernel_rfl)] at y; cases y
theorem lbr_5 {F : Nat → Value → World → Prop} (hI : RInv lbrOps Ac F S l c w) (y : l.getD 12 false = true) : l.getD 5 false = true := by
  cases p : l.getD 5 false with
  | true => rfl
  | false => rw [hI.2.2.1.2.unlisted p (j := 12) (by kernel_rfl)] at y; cases y
end

set_option maxHeartbeats 4000000 in
set_option maxRecDepth 100000 in
theorem lbr_region {Q : Exit → Act → World → Prop} (base : Nat) (vv va vb : Value) (m : Nat) (A C : List UInt8) (W w : World) (Ac : Act) (hsz : Ac.tmps.size = 118) (hbase : base ≤ W.heap.size) (hWb : W.heap.size ≤ base) (hm : m ≤ 100000) (hAl : A.length ≤ 100000) (hCl : C.length ≤ 100000)
    (hA' : BytesAt W va A) (hC' : BytesAt W vb C) (kA : ∀ W' : World, (Instr.slice 26 vv (some (.int .i64 28)) (some (.int .i64 (28 + (m : Int)))) none).run Tryz.prog W' = .ok va W') (kC : ∀ W' : World, (Instr.slice 26 vv (some (.int .i64 (28 + (m : Int)))) none none).run Tryz.prog W' = .ok vb W')
    (a1 : Ac.tmps.getD 1 undef = vv) (a5 : Ac.tmps.getD 5 undef = .int .i64 (m : Int)) (hS0 : Below W.heap.size W w)
    (hQ : ∀ c w' P5 P11, SameBut lbrOps Ac c → Below W.heap.size W w' → Bts w' base (c.tmps.getD 6 undef) A → (c.tmps.getD 6 undef).ownBlock = some P5 → Bts w' base (c.tmps.getD 7 undef) C → (c.tmps.getD 7 undef).ownBlock = some P11 → P5 ≠ P11 → Q .normal c w') :
    wpAny Tryz.prog .any lbrOps Q lbrOps.size (Array.replicate lbrOps.size false) Ac w := by
  refine wpAny_inv2 (fun l c wx => ∃ P0 P5 P6 P11 d q, RInv lbrOps Ac (LbrF base vv va vb m A C P0 P5 P6 P11 d q) (fun wx => Below W.heap.size W wx) l c wx ∧ Ap l P0 P5 P6 P11 ∧ (l.getD 5 false = false → d = false) ∧ (l.getD 11 false = false → q = false)) lbrR ?hend ?hstep _ _ _ _ (by simp) (by simp)
    ⟨0, 0, 0, 0, false, false, RInv.start hS0, ⟨fun h => by rw [rep_no] at h; (cases h), fun h => by rw [rep_no] at h; (cases h), fun h => by rw [rep_no] at h; (cases h), fun h => by rw [rep_no] at h; (cases h)⟩, fun _ => rfl, fun _ => rfl⟩
  case hend =>
    rintro l c wx ⟨P0, P5, P6, P11, d, q, hI, hA, -, -⟩ hl
    have hh : ∀ k, k < 14 → l.getD k false = true := fun k hk => hl k (by rw [lbrRn]; exact hk)
    obtain ⟨x1, x2⟩ : Bts wx base (c.tmps.getD 6 undef) A ∧ (c.tmps.getD 6 undef).ownBlock = some P5 := hI.fact 12 6 rfl (hh 12 (by decide))
    obtain ⟨x3, x4⟩ : Bts wx base (c.tmps.getD 7 undef) C ∧ (c.tmps.getD 7 undef).ownBlock = some P11 := hI.fact 13 7 rfl (hh 13 (by decide))
    exact hQ c wx P5 P11 hI.1 hI.2.1 x1 x2 x3 x4 (hA.h5b (hh 5 (by decide)) (hh 11 (by decide)))
  intro l c wx hIx i' op ho hl hall K' hK'
  obtain ⟨P0, P5, P6, P11, d, q, hI, hA, hD, hQ6⟩ := hIx
  have hls : l.size = 14 := by rw [hI.2.2.1.1, lbrRn]
  have hi13 : i' < 14 := by rw [← lbrRn]; exact (Array.getElem?_eq_some_iff.1 ho).1
  simp only [lbrOps, regOps, Tryz.f17, Option.getD_some, reduceIte, Nat.reduceEqDiff] at ho
  have hS := hI.2.1
  have s1 := (hI.slot 1 (by kernel_rfl)).trans a1
  have s5 := (hI.slot 5 (by kernel_rfl)).trans a5
  simp only [Array.getD_eq_getD_getElem?] at s1 s5
  have hic : i' = 0 ∨ i' = 1 ∨ i' = 2 ∨ i' = 3 ∨ i' = 4 ∨ i' = 5 ∨ i' = 6 ∨ i' = 7 ∨ i' = 8 ∨ i' = 9 ∨ i' = 10 ∨ i' = 11 ∨ i' = 12 ∨ i' = 13 := by omega
  rcases hic with rfl | rfl | rfl | rfl | rfl | rfl | rfl | rfl | rfl | rfl | rfl | rfl | rfl | rfl
  all_goals cases ho
  · go_simp
    have hb2 : Below wx.heap.size wx (wx.alloc (.cells #[] 5)) := (Below.refl _ _).alloc (Nat.le_refl _) _
    have hS2 := hS.trans (hb2.mono hS.size)
    have hJ := hI.other (F' := LbrF base vv va vb m A C wx.heap.size P5 P6 P11 d q) (fun j hj u hF => hF.gh0 (yes_no hj hl))
    exact hK' _ _ ⟨wx.heap.size, P5, P6, P11, d, q, hJ.step lbrRa 0 31 rfl (by rw [hsz]; decide) _ _ rfl hall hS2 (fun _ _ h => LbrF.new h hb2) ⟨rfl, by simp, fun _ => row_empty (by simp) (Nat.le_trans hbase hS.size)⟩, hA.at0 (lbr_lt6 hI) (lbr_lt11 hI), (fun h => hD (listed_set h)), (fun h => hQ6 (listed_set h))⟩
  · go_simp
    exact hK' _ _ ⟨P0, P5, P6, P11, d, q, hI.step lbrRa 1 32 rfl (by rw [hsz]; decide) _ _ rfl hall hS (fun _ _ h => h) rfl, hA.other (by decide) (by decide) (by decide) (by decide), (fun h => hD (listed_set h)), (fun h => hQ6 (listed_set h))⟩
  · go_simp
    exact hK' _ _ ⟨P0, P5, P6, P11, d, q, hI.step lbrRa 2 33 rfl (by rw [hsz]; decide) _ _ rfl hall hS (fun _ _ h => h) rfl, hA.other (by decide) (by decide) (by decide) (by decide), (fun h => hD (listed_set h)), (fun h => hQ6 (listed_set h))⟩
  · have e2 : c.tmps.getD 33 undef = .int .i64 (m : Int) := hI.fact 2 33 rfl (listed hall 2 (by kernel_rfl))
    simp only [Array.getD_eq_getD_getElem?] at e2
    have j1 : IntKind.i64.wrap (28 + (m : Int)) = 28 + (m : Int) := IntWalk.i64_in _ (by omega)
    go_simp
    exact hK' _ _ ⟨P0, P5, P6, P11, d, q, hI.step lbrRa 3 34 rfl (by rw [hsz]; decide) _ _ rfl hall hS (fun _ _ h => h) rfl, hA.other (by decide) (by decide) (by decide) (by decide), (fun h => hD (listed_set h)), (fun h => hQ6 (listed_set h))⟩
  · have e1 : c.tmps.getD 32 undef = vv := hI.fact 1 32 rfl (listed hall 1 (by kernel_rfl))
    simp only [Array.getD_eq_getD_getElem?] at e1
    have e3 : c.tmps.getD 34 undef = .int .i64 (28 + (m : Int)) := hI.fact 3 34 rfl (listed hall 3 (by kernel_rfl))
    simp only [Array.getD_eq_getD_getElem?] at e3
    have kk := kA
    go_simp
    exact hK' _ _ ⟨P0, P5, P6, P11, d, q, hI.step lbrRa 4 35 rfl (by rw [hsz]; decide) _ _ rfl hall hS (fun _ _ h => h) rfl, hA.other (by decide) (by decide) (by decide) (by decide), (fun h => hD (listed_set h)), (fun h => hQ6 (listed_set h))⟩
  · obtain ⟨e0, hlt0, hrow0⟩ : c.tmps.getD 31 undef = .slice (some ⟨P0, 0, none⟩) 0 0 ∧ P0 < wx.heap.size ∧ (d = false → wx.ownsRow base 5 1 (c.tmps.getD 31 undef) 0 []) := hI.fact 0 31 rfl (listed hall 0 (by kernel_rfl))
    have hr := hrow0 (hD hl)
    rw [e0] at hr
    simp only [Array.getD_eq_getD_getElem?] at e0
    have e4 : c.tmps.getD 35 undef = va := hI.fact 4 35 rfl (listed hall 4 (by kernel_rfl))
    simp only [Array.getD_eq_getD_getElem?] at e4
    obtain ⟨i0, hin, hz0, hz1, hz2⟩ := info_parts infoU8
    have hsrc := (hA'.new hS).src
    refine step_append_src _ rfl _ _ 26 26 rfl base 5 i0 (.int .u8 0) 1 1 Tryz.underlying26 hin hz0 hz1 hz2 rfl (.slice (some ⟨P0, 0, none⟩) 0 0) 0 [] (by simpa [Act.eval] using e0) hr va (by simpa [Act.eval] using e4) A.length (Lib.byteCells A) hsrc (by unfold maxLen; omega) (by omega) (Nat.le_trans hbase hS.size) ?_
    intro v' w2 hown hgrow hat
    have hB2 : Bts w2 base v' A := by unfold Bts; first | exact hown | (rw [Nat.zero_add, List.nil_append] at hown; exact hown)
    obtain ⟨N, hN⟩ : ∃ N, v'.ownBlock = some N ∧ (N = P0 ∨ N = wx.heap.size) := by
      rcases hat with h | h
      · exact ⟨P0, h, .inl rfl⟩
      · exact ⟨_, h, .inr rfl⟩
    have hk2 : Keeps (fun i => i = P0) wx w2 := Keeps.of_grown hgrow (fun i e => (Option.some.inj (show some P0 = some i from e)).symm)
    have hWP : base ≤ P0 := by have := hr.lt P0 rfl; exact this.1
    have hS2 := hS.trans (hk2.below hS.size (fun i hi e => by have e2 : i = P0 := e; omega))
    have u12 := hI.2.2.1.2.unlisted hl (j := 12) (by kernel_rfl)
    have hJ := hI.other (F' := LbrF base vv va vb m A C P0 N P6 P11 true q) (fun j hj u hF => hF.gh5 (yes_no hj hl) (yes_no hj u12))
    exact hK' _ _ ⟨P0, N, P6, P11, true, q, hJ.stepL lbrRa 5 36 rfl (by rw [hsz]; decide) _ _ rfl hall hS2 (fun j hj _ h => LbrF.grown5 h hk2 (⟨yes_no hj hl, yes_no hj u12, fun e => hA.h06 (listed hall 0 (by kernel_rfl)) (by rw [← e]; exact hj), fun e => hA.h0b (listed hall 0 (by kernel_rfl)) (by rcases e with e | e; (rw [← e]; exact hj); (rw [e] at hj; exact lbr_b hI hj))⟩)) ⟨hB2, hN.1⟩, hA.at5 (listed hall 0 (by kernel_rfl)) hN.2 (lbr_lt6 hI) (lbr_lt11 hI), fun h => absurd h (by rw [set_here (by rw [hls]; decide)]; simp), (fun h => hQ6 (listed_set h))⟩
  · go_simp
    have hb2 : Below wx.heap.size wx (wx.alloc (.cells #[] 5)) := (Below.refl _ _).alloc (Nat.le_refl _) _
    have hS2 := hS.trans (hb2.mono hS.size)
    have hJ := hI.other (F' := LbrF base vv va vb m A C P0 P5 wx.heap.size P11 d q) (fun j hj u hF => hF.gh6 (yes_no hj hl))
    exact hK' _ _ ⟨P0, P5, wx.heap.size, P11, d, q, hJ.step lbrRa 6 37 rfl (by rw [hsz]; decide) _ _ rfl hall hS2 (fun _ _ h => LbrF.new h hb2) ⟨rfl, by simp, fun _ => row_empty (by simp) (Nat.le_trans hbase hS.size)⟩, hA.at6 (lbr_lt0 hI) (lbr_lt5 hI), (fun h => hD (listed_set h)), (fun h => hQ6 (listed_set h))⟩
  · go_simp
    exact hK' _ _ ⟨P0, P5, P6, P11, d, q, hI.step lbrRa 7 38 rfl (by rw [hsz]; decide) _ _ rfl hall hS (fun _ _ h => h) rfl, hA.other (by decide) (by decide) (by decide) (by decide), (fun h => hD (listed_set h)), (fun h => hQ6 (listed_set h))⟩
  · go_simp
    exact hK' _ _ ⟨P0, P5, P6, P11, d, q, hI.step lbrRa 8 39 rfl (by rw [hsz]; decide) _ _ rfl hall hS (fun _ _ h => h) rfl, hA.other (by decide) (by decide) (by decide) (by decide), (fun h => hD (listed_set h)), (fun h => hQ6 (listed_set h))⟩
  · have e8 : c.tmps.getD 39 undef = .int .i64 (m : Int) := hI.fact 8 39 rfl (listed hall 8 (by kernel_rfl))
    simp only [Array.getD_eq_getD_getElem?] at e8
    have j1 : IntKind.i64.wrap (28 + (m : Int)) = 28 + (m : Int) := IntWalk.i64_in _ (by omega)
    go_simp
    exact hK' _ _ ⟨P0, P5, P6, P11, d, q, hI.step lbrRa 9 40 rfl (by rw [hsz]; decide) _ _ rfl hall hS (fun _ _ h => h) rfl, hA.other (by decide) (by decide) (by decide) (by decide), (fun h => hD (listed_set h)), (fun h => hQ6 (listed_set h))⟩
  · have e7 : c.tmps.getD 38 undef = vv := hI.fact 7 38 rfl (listed hall 7 (by kernel_rfl))
    simp only [Array.getD_eq_getD_getElem?] at e7
    have e9 : c.tmps.getD 40 undef = .int .i64 (28 + (m : Int)) := hI.fact 9 40 rfl (listed hall 9 (by kernel_rfl))
    simp only [Array.getD_eq_getD_getElem?] at e9
    have kk := kC
    go_simp
    exact hK' _ _ ⟨P0, P5, P6, P11, d, q, hI.step lbrRa 10 41 rfl (by rw [hsz]; decide) _ _ rfl hall hS (fun _ _ h => h) rfl, hA.other (by decide) (by decide) (by decide) (by decide), (fun h => hD (listed_set h)), (fun h => hQ6 (listed_set h))⟩
  · obtain ⟨e6, hlt6, hrow6⟩ : c.tmps.getD 37 undef = .slice (some ⟨P6, 0, none⟩) 0 0 ∧ P6 < wx.heap.size ∧ (q = false → wx.ownsRow base 5 1 (c.tmps.getD 37 undef) 0 []) := hI.fact 6 37 rfl (listed hall 6 (by kernel_rfl))
    have hr := hrow6 (hQ6 hl)
    rw [e6] at hr
    simp only [Array.getD_eq_getD_getElem?] at e6
    have e10 : c.tmps.getD 41 undef = vb := hI.fact 10 41 rfl (listed hall 10 (by kernel_rfl))
    simp only [Array.getD_eq_getD_getElem?] at e10
    obtain ⟨i0, hin, hz0, hz1, hz2⟩ := info_parts infoU8
    have hsrc := (hC'.new hS).src
    refine step_append_src _ rfl _ _ 26 26 rfl base 5 i0 (.int .u8 0) 1 1 Tryz.underlying26 hin hz0 hz1 hz2 rfl (.slice (some ⟨P6, 0, none⟩) 0 0) 0 [] (by simpa [Act.eval] using e6) hr vb (by simpa [Act.eval] using e10) C.length (Lib.byteCells C) hsrc (by unfold maxLen; omega) (by omega) (Nat.le_trans hbase hS.size) ?_
    intro v' w2 hown hgrow hat
    have hB2 : Bts w2 base v' C := by unfold Bts; first | exact hown | (rw [Nat.zero_add, List.nil_append] at hown; exact hown)
    obtain ⟨N, hN⟩ : ∃ N, v'.ownBlock = some N ∧ (N = P6 ∨ N = wx.heap.size) := by
      rcases hat with h | h
      · exact ⟨P6, h, .inl rfl⟩
      · exact ⟨_, h, .inr rfl⟩
    have hk2 : Keeps (fun i => i = P6) wx w2 := Keeps.of_grown hgrow (fun i e => (Option.some.inj (show some P6 = some i from e)).symm)
    have hWP : base ≤ P6 := by have := hr.lt P6 rfl; exact this.1
    have hS2 := hS.trans (hk2.below hS.size (fun i hi e => by have e2 : i = P6 := e; omega))
    have u13 := hI.2.2.1.2.unlisted hl (j := 13) (by kernel_rfl)
    have hJ := hI.other (F' := LbrF base vv va vb m A C P0 P5 P6 N d true) (fun j hj u hF => hF.gh11 (yes_no hj hl) (yes_no hj u13))
    exact hK' _ _ ⟨P0, P5, P6, N, d, true, hJ.stepL lbrRa 11 42 rfl (by rw [hsz]; decide) _ _ rfl hall hS2 (fun j hj _ h => LbrF.grown11 h hk2 (⟨yes_no hj hl, yes_no hj u13, fun e => (hA.h06 (by rw [← e]; exact hj) (listed hall 6 (by kernel_rfl))).symm, fun e => (hA.h56 (by rcases e with e | e; (rw [← e]; exact hj); (rw [e] at hj; exact lbr_5 hI hj)) (listed hall 6 (by kernel_rfl))).symm⟩)) ⟨hB2, hN.1⟩, hA.at11 (listed hall 6 (by kernel_rfl)) hN.2 (lbr_lt0 hI) (lbr_lt5 hI), (fun h => hD (listed_set h)), fun h => absurd h (by rw [set_here (by rw [hls]; decide)]; simp)⟩
  · obtain ⟨hb5, ho5⟩ : Bts wx base (c.tmps.getD 36 undef) A ∧ (c.tmps.getD 36 undef).ownBlock = some P5 := hI.fact 5 36 rfl (listed hall 5 (by kernel_rfl))
    have hf := And.intro hb5 ho5
    obtain ⟨xa, xc, hx⟩ := hb5.shape
    rw [hx] at hf
    simp only [Array.getD_eq_getD_getElem?] at hx
    go_simp
    exact hK' _ _ ⟨P0, P5, P6, P11, d, q, hI.step lbrRa 12 6 rfl (by rw [hsz]; decide) _ _ rfl hall hS (fun _ _ h => h) hf, hA.other (by decide) (by decide) (by decide) (by decide), (fun h => hD (listed_set h)), (fun h => hQ6 (listed_set h))⟩
  · obtain ⟨hb11, ho11⟩ : Bts wx base (c.tmps.getD 42 undef) C ∧ (c.tmps.getD 42 undef).ownBlock = some P11 := hI.fact 11 42 rfl (listed hall 11 (by kernel_rfl))
    have hf := And.intro hb11 ho11
    obtain ⟨xa, xc, hx⟩ := hb11.shape
    rw [hx] at hf
    simp only [Array.getD_eq_getD_getElem?] at hx
    go_simp
    exact hK' _ _ ⟨P0, P5, P6, P11, d, q, hI.step lbrRa 13 7 rfl (by rw [hsz]; decide) _ _ rfl hall hS (fun _ _ h => h) hf, hA.other (by decide) (by decide) (by decide) (by decide), (fun h => hD (listed_set h)), (fun h => hQ6 (listed_set h))⟩
end Go.Proofs.YtofhcgbihonckaaGreatDoor
