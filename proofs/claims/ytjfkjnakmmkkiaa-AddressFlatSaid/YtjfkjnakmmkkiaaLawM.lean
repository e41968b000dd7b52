/- The law AddressReads: its walk. -/
import Derived.Test.YtjfkjnakmmkkiaaLawJ
import Derived.Test.YtjfkjnakmmkkiaaLawL
import Derived.Deep.DeepCutAuto
import Derived.Deep.CutBlock
import Derived.Outline
namespace Go.Proofs.Ytjfkjnakmmkkiaa
open Go.RowKit

theorem or_low (x y : Int) (hx0 : 0 ≤ x) (hx1 : x ≤ 4294967295) (hy0 : 0 ≤ y) (hy1 : y ≤ 255) : bits .or .i64 (x * 1048576) y = x * 1048576 + y := by
  obtain ⟨x, rfl⟩ := Int.eq_ofNat_of_zero_le hx0
  obtain ⟨y, rfl⟩ := Int.eq_ofNat_of_zero_le hy0
  exact or_add 20 (x * 1048576) y (by omega) ⟨x, by omega⟩ (by omega)
theorem props_two {R : Nat → Prop} {w : World} {p : Nat} {x y z u : ByteArray} {t : TypeId} (h : Holds w p #[.string x, .string y, .string z, .string u] t) (hR : R p) (hx : x.size ≤ 1000) (hy : y.size ≤ 1000) (hz : z.size ≤ 1000) (hu : u.size ≤ 1000) : PropsIn R w (.slice (some ⟨p, 0, none⟩) 2 2) [⟨x, y⟩, ⟨z, u⟩] := by
  refine ⟨some ⟨p, 0, none⟩, 2, rfl, Nat.le_refl _, by omega, fun _ => ⟨p, 0, rfl, hR, fun k hk => ?_⟩⟩
  match k, hk with
  | 0, _ => exact ⟨h.cell 0, h.cell 1, by show x.size ≤ _; omega, by show y.size ≤ _; omega⟩
  | 1, _ => exact ⟨h.cell 2, h.cell 3, by show z.size ≤ _; omega, by show u.size ≤ _; omega⟩
theorem list_oneB {w : World} {B : Nat} (hB : w.heap.size = B) (x : Int) (t : TypeId) : ListAt (w.alloc (.cells #[.int .i64 x] t)).heap.size (w.alloc (.cells #[.int .i64 x] t)) (.slice (some ⟨B, 0, none⟩) 1 1) [x] := by
  subst hB; exact list_one w x t
theorem bytes_ext {a b : ByteArray} (h : a.data.toList = b.data.toList) : a = b := by
  cases a; cases b; congr; exact Array.toList_inj.1 h
theorem rowsAs_app (cs : List Int) : ∀ a b : List (List Int), rowsAs cs (a ++ b) = rowsAs cs a ++ rowsAs cs b
  | [], _ => rfl
  | x :: a, b => by show rowAs x cs ++ rowsAs cs (a ++ b) = _; rw [rowsAs_app cs a b]; simp [rowsAs]
theorem rows_more (ac sc base size : Int) (j : Nat) (c one d : ByteArray) (hc : c.data.toList = growT (rowsAs [ac, sc] (List.replicate j [base, size]))) (ho : one.data.toList = growT (rowAs [base, size] [ac, sc])) (hd : d.data.toList = c.data.toList ++ one.data.toList) :
    d.data.toList = growT (rowsAs [ac, sc] (List.replicate (j + 1) [base, size])) := by
  rw [hd, hc, ho, List.replicate_succ', rowsAs_app, growT_app]
  show _ = _ ++ growT (rowAs [base, size] [ac, sc] ++ [])
  rw [List.append_nil]
def ReadsLoop (n ac sc base size : Int) (w : World) (f : Nat) (x y : Value) (wr : World) : Prop :=
  ∃ (j : Nat) (c : ByteArray), x = .string c ∧ y = .int .i64 j ∧ (j : Int) ≤ 1 + n % 4 ∧ 1 + n % 4 ≤ j + f ∧ Hid (c.data.toList = growT (rowsAs [ac, sc] (List.replicate j [base, size]))) ∧ c.size ≤ 16 * j ∧ w = wr
def ReadsEnd (j : Nat) (base size : Int) (sa : Option Addr) (scap X N : Nat) (T : List NodeT) (w : World) (f : Nat) (y : Value) (wr : World) : Prop :=
  ∃ i : Nat, i ≤ j ∧ j ≤ i + f ∧ y = .int .i64 i ∧ NodesIn (fun _ => True) wr (.slice (some ⟨N, 0, none⟩) 2 2) T ∧ Holds wr X #[.slice (some ⟨N, 0, none⟩) 2 2] 27 ∧
    wr.ownsRow 0 37 2 (.slice sa j scap) j (pairCells (List.replicate j (base, size))) ∧ Below w.heap.size w wr
theorem tReads_in {w : World} {B p1 p2 : Nat} {t1 t2 t3 : TypeId} {ac sc base size : Int} {k : Nat} (hk : k ≤ 4) (hac : ac = 1 ∨ ac = 2) (hsc : sc = 1 ∨ sc = 2) (hb : FitW base ac) (hz : FitW size sc)
    (h1 : Holds w p1 #[.string nmAC, .string (valT [ac]), .string nmSC, .string (valT [sc])] t1) (h2 : Holds w p2 #[.string sReg, .string (valT (rowsAs [ac, sc] (List.replicate k [base, size])))] t2)
    (hn : Holds w B #[.int .i64 (-1), .string ByteArray.empty, .slice (some ⟨p1, 0, none⟩) 2 2, .int .i64 0, .string sDev, .slice (some ⟨p2, 0, none⟩) 1 1] t3) :
    NodesIn (fun _ => True) w (.slice (some ⟨B, 0, none⟩) 2 2) (tReads ac sc base size k) := by
  have hl := rowsAs_len [ac, sc] (List.replicate k [base, size]) (by intro ns hn; rw [(List.mem_replicate.1 hn).2]; exact ⟨hb, hz, trivial⟩)
  have hv : (valT (rowsAs [ac, sc] (List.replicate k [base, size]))).size ≤ 1000 := by
    rw [valT_size]
    rw [List.length_replicate] at hl
    have e : sumT [ac, sc] = ac + sc := by simp [sumT]
    rw [e] at hl
    have : (k : Int) * (ac + sc) ≤ 4 * 4 := Int.mul_le_mul (by omega) (by omega) (by omega) (by omega)
    omega
  refine ⟨some ⟨B, 0, none⟩, 2, rfl, Nat.le_refl _, by omega, fun _ => ⟨B, 0, rfl, trivial, fun j hj => ?_⟩⟩
  match j, hj with
  | 0, _ => exact ⟨_, hn.cell 0, hn.cell 1, hn.cell 2, props_two h1 trivial (by decide) (by rw [valT_size]; simp) (by decide) (by rw [valT_size]; simp), by show (0 : Nat) ≤ _; omega, by show _ ≤ (-1 : Int); omega, by show (-1 : Int) ≤ _; omega⟩
  | 1, _ => exact ⟨_, hn.cell 3, hn.cell 4, hn.cell 5, props_one h2 trivial (by decide) hv, by show (3 : Nat) ≤ _; omega, by show _ ≤ (0 : Int); omega, by show (0 : Int) ≤ _; omega⟩

set_option maxRecDepth 100000 in
set_option maxHeartbeats 4000000 in
theorem reads11_walk (a b n : Int) (wb ws : Bool) (w : World) (ha0 : 0 ≤ a) (ha1 : a ≤ 4294967295) (hb0 : 0 ≤ b) (hb1 : b ≤ 4294967295) (hn0 : 0 ≤ n) (hn1 : n ≤ 255) :
    Calls Try.prog 6 #[.int .u32 a, .int .u32 b, .bool wb, .bool ws, .int .u8 n] w fun e w' => e = .returned (.bool true) ∧ Below w.heap.size w w' := by
  go_enter Try.func6, Try.ntmps6
  go_upto_if 33 with fail
  go_cut [11, 13] (fun x y wx => ∃ base ac : Int, x = .int .i64 base ∧ y = .int .i64 ac ∧ FitW base ac ∧ (ac = 1 ∨ ac = 2) ∧ base ≤ 4503599627370495 ∧ w = wx)
  case first =>
    have hor := or_low a n ha0 ha1 hn0 hn1
    cases wb
    · go_wp2_with fail
      go_meet
      exact ⟨a, 1, rfl, rfl, ⟨ha0, by omega, .inr ⟨rfl, ha1⟩⟩, .inl rfl, by omega, rfl⟩
    · go_wp2_with fail
      go_meet
      exact ⟨a * 1048576 + n, 2, rfl, rfl, ⟨by omega, by omega, .inl rfl⟩, .inr rfl, by omega, rfl⟩
  case rest =>
    obtain ⟨base, ac, rfl, rfl, hfb, hac, hbb, rfl⟩ := hcut
    go_upto_if 40 with fail
    go_cut [12, 14] (fun x y wx => ∃ size sc : Int, x = .int .i64 size ∧ y = .int .i64 sc ∧ FitW size sc ∧ (sc = 1 ∨ sc = 2) ∧ size ≤ 4503599627370495 ∧ w = wx)
    case first =>
      cases ws
      · go_wp2_with fail
        go_meet
        exact ⟨b, 1, rfl, rfl, ⟨hb0, by omega, .inr ⟨rfl, hb1⟩⟩, .inl rfl, by omega, rfl⟩
      · go_wp2_with fail
        go_meet
        exact ⟨b * 1024, 2, rfl, rfl, ⟨by omega, by omega, .inl rfl⟩, .inr rfl, by omega, rfl⟩
    case rest =>
      obtain ⟨size, sc, rfl, rfl, hfs, hsc, hsb, rfl⟩ := hcut
      have hk0 : 1 ≤ 1 + n % 4 := by omega
      have hk4 : 1 + n % 4 ≤ 4 := by omega
      have hrd := fun wx => law_number base ac wx hfb.1 hfb.2.1 (by rcases hfb.2.2 with h | h; exact .inl h; exact .inr h.2)
      have hrd2 := fun wx => law_number size sc wx hfs.1 hfs.2.1 (by rcases hfs.2.2 with h | h; exact .inl h; exact .inr h.2)
      have e1 : growT (if ac = 2 then [base / 4294967296, base % 4294967296] else [base]) = growT (asT base ac) := rfl
      have e2 : growT (if sc = 2 then [size / 4294967296, size % 4294967296] else [size]) = growT (asT size sc) := rfl
      rw [e1] at hrd
      rw [e2] at hrd2
      have HRD := Lib.hid hrd; have HRD2 := Lib.hid hrd2
      clear hrd hrd2 e1 e2
      have hl1 := asT_len base ac hac
      have hl2 := asT_len size sc hsc
      obtain ⟨one, hadd, hos, hod⟩ := adds_of' ⟨(growT (asT base ac)).toArray⟩ ⟨(growT (asT size sc)).toArray⟩ (by have := valT_size (asT base ac); have := valT_size (asT size sc); unfold valT at *; omega)
      have hosz : one.size ≤ 16 := by have := valT_size (asT base ac); have := valT_size (asT size sc); unfold valT at *; omega
      have HOD := Lib.hid (show one.data.toList = growT (rowAs [base, size] [ac, sc]) from by
        rw [hod]; show growT (asT base ac) ++ growT (asT size sc) = growT (asT base ac ++ (asT size sc ++ [])); rw [List.append_nil, growT_app])
      clear hod hos hl1 hl2
      have HFB := Lib.hid hfb; have HFS := Lib.hid hfs; clear hfb hfs
      have HAC := Lib.hid hac; have HSC := Lib.hid hsc; clear hac hsc
      go_wp2_with fail
      refine (HRD.out _).mono ?_
      rintro e w1 ⟨rfl, hb1⟩
      clear HRD
      go_wp2_with fail
      refine (HRD2.out _).mono ?_
      rintro e w2 ⟨rfl, hb2⟩
      clear HRD2
      have hb3 := hb1.trans (hb2.mono hb1.size)
      clear hb1 hb2
      go_wp2_with fail
      go_loopg [17, 18] (4) (fun f x y wr => ReadsLoop n ac sc base size w2 f x y wr)
      case atStart => exact ⟨0, ByteArray.empty, rfl, rfl, by omega, by omega, rfl, by decide, rfl⟩
      case round =>
        obtain ⟨j, c, rfl, rfl, hj, hf, HC, hcs, rfl⟩ := hrel
        by_cases hlt : (j : Int) < 1 + n % 4
        · obtain ⟨d, hadd2, hds, hdd⟩ := adds_of' c one (by omega)
          have HD := Lib.hid (rows_more ac sc base size j c one d HC.out HOD.out hdd)
          clear hadd hdd
          go_wp2_with fail
          go_roundg (gk - 1)
          case measure => omega
          case rel => exact ⟨j + 1, d, rfl, by go_num, by omega, by omega, HD, by omega, rfl⟩
        · have hkn : 1 + n % 4 = (j : Int) := by omega
          have hk1 : 1 ≤ j := by omega
          have hk44 : j ≤ 4 := by omega
          have hcv : c = valT (rowsAs [ac, sc] (List.replicate j [base, size])) := bytes_ext (by rw [HC.out]; rfl)
          have HCV := Lib.hid hcv
          clear hcv hadd HC hcs HOD hosz
          have HKN := Lib.hid hkn
          clear hkn
          go_wp2_with fail
          have hba := Lib.hid (show ∀ x ∈ [ac], 0 ≤ x ∧ x ≤ 4294967295 from by intro x hx; simp at hx; subst hx; have := HAC.out; omega)
          have hbs := Lib.hid (show ∀ x ∈ [sc], 0 ≤ x ∧ x ≤ 4294967295 from by intro x hx; simp at hx; subst hx; have := HSC.out; omega)
          refine (grow_Cells _ _ _ (list_one w2 ac _) (by exact hba.out) (by simp)).mono ?_
          rintro e w3 ⟨rfl, hb4⟩
          have hb5 := (hb3.alloc hb3.size (.cells #[.int .i64 ac] 3)).trans (hb4.mono (by have := hb3.size; simp; omega))
          clear hb4 hb3
          have hs5 := hb5.size
          go_wp2_with fail
          refine (grow_Cells _ _ _ (list_one w3 sc _) (by exact hbs.out) (by simp)).mono ?_
          rintro e w4 ⟨rfl, hb6⟩
          have hb7 := (hb5.alloc hb5.size (.cells #[.int .i64 sc] 3)).trans (hb6.mono (by simp; omega))
          clear hb6 hb5 hs5 hba hbs
          have hs7 := hb7.size
          go_wp2_with fail
          refine (address_Regions (fun _ => True) _ (tReads ac sc base size j) 1 _ (by
            have hcv := HCV.out
            subst hcv
            exact tReads_in hk44 HAC.out HSC.out HFB.out HFS.out ((((Holds.new w4 _ _).alloc _).alloc _).alloc _) (((Holds.newB (w := w4.alloc _) (B := w4.heap.size + 1) (by simp) _ _).alloc _).alloc _) ((Holds.newB (w := (w4.alloc _).alloc _) (B := w4.heap.size + 1 + 1) (by simp) _ _).alloc _))).mono ?_
          rintro e w5 ⟨rv, rfl, hown, hb8⟩
          have hT := NodesIn.new (R := fun _ => True) (v := .slice (some ⟨w4.heap.size + 1 + 1, 0, none⟩) 2 2) (T := tReads ac sc base size j) (by
            have hcv := HCV.out
            subst hcv
            exact tReads_in hk44 HAC.out HSC.out HFB.out HFS.out ((((Holds.new w4 _ _).alloc _).alloc _).alloc _) (((Holds.newB (w := w4.alloc _) (B := w4.heap.size + 1) (by simp) _ _).alloc _).alloc _) ((Holds.newB (w := (w4.alloc _).alloc _) (B := w4.heap.size + 1 + 1) (by simp) _ _).alloc _)) hb8
          have hX := (Holds.newB (w := ((w4.alloc _).alloc _).alloc _) (B := w4.heap.size + 1 + 1 + 1) (by simp) _ _).keeps (Keeps.of_fresh hb8 (fun _ => False)) (fun e => e)
          have hb9 := ((((hb7.alloc hs7 _).alloc (by simp; omega) _).alloc (by simp; omega) _).alloc (by simp; omega) _).trans (hb8.mono (by simp; omega))
          have hre := tReads_aregions (base := base) (size := size) HAC.out HSC.out hk1 hk44 HFB.out HFS.out (by omega)
          simp only [hre, List.length_replicate] at hown ⊢
          have hce := tReads_acells (base := base) (size := size) HAC.out HSC.out hk1 hk44
          have htr := fun i hi => tReads_trans (base := base) (size := size) HAC.out HSC.out hk1 hk44 HFB.out HFS.out (by omega) i hi
          clear hre hb8 hb7 HCV
          have HTR := Lib.hid htr
          clear htr
          obtain ⟨sa, scap, rfl⟩ := owns_slice hown
          have bx := hX.cell 0
          have blt := hX.lt
          generalize w4.heap.size + 1 + 1 + 1 = X at *
          generalize w4.heap.size + 1 + 1 = N at *
          generalize tReads ac sc base size j = T at *
          clear hs7
          go_wp2_with fail
          refine (address_Cells (fun _ => True) _ T 0 _ (by exact hT)).mono ?_
          rintro e w6 ⟨rfl, hb10⟩
          simp only [hce]
          clear hce
          have hT2 := hT.new hb10
          have hX2 := hX.keeps (Keeps.of_fresh hb10 (fun _ => False)) (fun e => e)
          have hown2 := ownsRow_keeps hown (Keeps.of_fresh hb10 (fun _ => False)) (fun _ _ e => e)
          have hb11 := hb9.trans (hb10.mono hb9.size)
          clear hT hX hown hb10 hb9 bx blt
          have hlen : ((j : Int) != 1 + n % 4) = false := by have := HKN.out; simp; omega
          go_wp2_with fail
          go_loopg [114] (j) (fun f y wr => ReadsEnd j base size sa scap X N T w f y wr)
          case atStart => exact ⟨0, by omega, by omega, rfl, hT2, hX2, ownsRow_base' hown2 (Nat.zero_le _), hb11⟩
          case round =>
            obtain ⟨i, hi, hf2, rfl, hTr, hXr, hor, hbr⟩ := hrel
            clear hT2 hX2 hown2 hb11
            by_cases hij : i < j
            · obtain ⟨gl, cl, hsl, q1, q2, q3, f0, f1⟩ := pair_cells_at (l := List.replicate j (base, size)) (by rw [List.length_replicate]; exact hor) i (by simpa using hij)
              rw [List.getElem_replicate] at f0 f1
              rw [List.length_replicate] at hsl q1
              cases hsl
              simp only at f0 f1
              have hXl := hXr.lt
              have bx := hXr.cell 0
              have hsr := hbr.size
              have HTI := Lib.hid (HTR.out i hij)
              clear HTR
              go_wp2_with fail
              refine (address_Translate (fun _ => True) _ T 1 i _ (by exact hTr.new ((Below.refl _ _).alloc (Nat.le_refl _) _))).mono ?_
              rintro e w7 ⟨rfl, hb12⟩
              have hti := HTI.out
              simp only [hti]
              clear hti
              have hk7 := Keeps.of_fresh hb12 (fun _ => False)
              have hL := (Holds.new wr #[.int .i64 base, .int .i64 size] 37).keeps hk7 (fun e => e)
              have l0 := hL.cell 0
              have l1 := hL.cell 1
              have ll := hL.lt
              have hkw : Keeps (fun _ => False) wr w7 := ((Keeps.refl (fun _ => False) wr).alloc _).trans hk7 (fun _ _ e => e)
              have hbw := (hbr.alloc hsr _).trans (hb12.mono (by simp; omega))
              go_wp2_with fail
              go_roundg (gk - 1)
              case measure => omega
              case rel => exact ⟨i + 1, by omega, by omega, by go_num, (hTr.keeps hkw (fun _ _ e => e)).new ((Below.refl _ _).alloc (Nat.le_refl _) _), (hXr.keeps hkw (fun e => e)).alloc _, (ownsRow_keeps hor hkw (fun _ _ e => e)).alloc _, hbw.alloc hbw.size _⟩
            · go_wp2_with fail
              refine (law_awake _).mono ?_
              rintro e w7 ⟨rfl, hb12⟩
              go_wp2_with fail
              go_ret
              exact ⟨rfl, hbr.trans (hb12.mono hbr.size)⟩
end Go.Proofs.Ytjfkjnakmmkkiaa
