/- bringupgrow: label, cell of a document. | bringupgrow: value of a document. | bringupgrow: Members and Document (texts of documents). | bringupgrow: Document. -/
import Derived.Test.YtofhcgbihonckaaGreatZ30
import Derived.Test.YtofhcgbihonckaaGreatZ16
import Derived.Deep.RegionWith
import Derived.Laws.IdiomStrings
import Derived.IntWalk
import Derived.Test.YtofhcgbihonckaaGreatZ29
import Derived.Deep.LoopGhost
set_option linter.unusedVariables false
set_option linter.unusedSimpArgs false
set_option linter.unusedSectionVars false
namespace Go.Proofs.YtofhcgbihonckaaGreat
open Go.RowKit
def lLab : List ByteArray := [⟨#[108, 49]⟩, ⟨#[108, 50]⟩, ⟨#[108, 51]⟩, ⟨#[108, 52]⟩, ⟨#[111, 115, 99]⟩, ⟨#[118, 100, 100]⟩]
def lCel : List ByteArray := [⟨#[48]⟩, ⟨#[49]⟩, ⟨#[50]⟩, ⟨#[48, 120, 49, 48]⟩, ⟨#[52, 50, 57, 52, 57, 54, 55, 50, 57, 53]⟩, ⟨#[50, 52, 48, 48, 48, 48, 48, 48]⟩]
theorem lLab_sz : ∀ s ∈ lLab, s.size ≤ 3 := by decide
theorem lCel_sz : ∀ s ∈ lCel, s.size ≤ 10 := by decide
def TxtP (B b m : Nat) (w : World) (e : Ending) (w' : World) : Prop := ∃ s : ByteArray, e = .returned (.string s) ∧ s.size ≤ m ∧ Tape B w' b ∧ Keeps (· = b) w w'
set_option maxHeartbeats 2000000 in
set_option maxRecDepth 100000 in
theorem grow_label (B b : Nat) (w : World) (h : Tape B w b) :
    Calls Tryz.prog 31 #[.pointer (some ⟨b, 0, none⟩)] w (TxtP B b 3 w) := by
  have hlt := h.lt
  go_enter Tryz.func31, Tryz.ntmps31
  go_wp2_with fail
  refine (mk_N B b 6 _ (h.keeps ((Keeps.refl (fun _ => False) w).alloc _) (fun _ e => e.elim)) (by omega) (by omega)).mono ?_
  rintro e w1 ⟨r, rfl, r0, r1, hT, hK⟩
  obtain ⟨r, rfl⟩ := Int.eq_ofNat_of_zero_le r0
  have hH := (Holds.new w (lLab.map Value.string).toArray 9).keeps hK (by omega)
  obtain ⟨s, hs1, hs2⟩ := pick_one lLab r (by have : lLab.length = 6 := rfl; omega)
  have hc : w1.cell? ⟨w.heap.size, r, none⟩ = some (.string s) := (hH.cell r).trans (by simp [hs1])
  have hK2 : Keeps (fun i => i = b) w w1 := ((Keeps.refl (fun i => i = b) w).alloc _).trans hK (fun _ _ e => e)
  go_wp2_with fail
  go_ret
  exact ⟨s, rfl, lLab_sz s hs2, hT, hK2⟩
set_option maxHeartbeats 2000000 in
set_option maxRecDepth 100000 in
theorem grow_cell (B b : Nat) (w : World) (h : Tape B w b) :
    Calls Tryz.prog 78 #[.pointer (some ⟨b, 0, none⟩)] w (TxtP B b 60 w) := by
  have hlt := h.lt
  go_enter Tryz.func78, Tryz.ntmps78
  go_wp2_with fail
  refine (mk_N B b 5 _ h (by omega) (by omega)).mono ?_
  rintro e w1 ⟨r, rfl, r0, r1, hT1, hK1⟩
  by_cases h0 : r = 0
  · subst h0
    go_wp2_with fail
    refine (grow_label B b _ hT1).mono ?_
    rintro e w2 ⟨s, rfl, hs, hT2, hK2⟩
    obtain ⟨s1, ha1, hs1, _⟩ := adds_ex ⟨#[38]⟩ s (by have : (⟨#[38]⟩ : ByteArray).size = 1 := rfl; omega)
    have e1 : (⟨#[38]⟩ : ByteArray).size = 1 := rfl
    unfold Adds at ha1
    go_wp2_with fail
    go_ret
    exact ⟨s1, rfl, by omega, hT2, hK1.trans hK2 (fun _ _ e => e)⟩
  · have h0' : (r == 0) = false := by simpa using h0
    by_cases h1 : r = 1
    · subst h1
      go_wp2_with fail
      refine (mk_Expression B b 1 (by omega) _ hT1).mono ?_
      rintro e w2 ⟨s, x, rfl, hX, hT2, hK2⟩
      have hsl : s.length ≤ 40 := hX.len
      obtain ⟨s1, ha1, hs1, _⟩ := adds_ex ⟨#[40]⟩ ⟨s.toArray⟩ (by simp [ByteArray.size]; omega)
      have e1 : (⟨#[40]⟩ : ByteArray).size = 1 := rfl
      have e2 : (⟨s.toArray⟩ : ByteArray).size = s.length := by simp [ByteArray.size]
      obtain ⟨s2, ha2, hs2, _⟩ := adds_ex s1 ⟨#[41]⟩ (by have : (⟨#[41]⟩ : ByteArray).size = 1 := rfl; omega)
      have e3 : (⟨#[41]⟩ : ByteArray).size = 1 := rfl
      unfold Adds at ha1 ha2
      go_wp2_with fail
      go_ret
      exact ⟨s2, rfl, by omega, hT2, hK1.trans hK2 (fun _ _ e => e)⟩
    · have h1' : (r == 1) = false := by simpa using h1
      go_wp2_with fail
      refine (mk_N B b 6 _ (hT1.keeps ((Keeps.refl (fun _ => False) w1).alloc _) (fun _ e => e.elim)) (by omega) (by omega)).mono ?_
      rintro e w2 ⟨q, rfl, q0, q1, hT2, hK2⟩
      obtain ⟨q, rfl⟩ := Int.eq_ofNat_of_zero_le q0
      have hl1 := hT1.lt
      have hH := (Holds.new w1 (lCel.map Value.string).toArray 9).keeps hK2 (by omega)
      obtain ⟨s, hs1, hs2⟩ := pick_one lCel q (by have : lCel.length = 6 := rfl; omega)
      have hc : w2.cell? ⟨w1.heap.size, q, none⟩ = some (.string s) := (hH.cell q).trans (by simp [hs1])
      have hK3 : Keeps (fun i => i = b) w w2 := (hK1.alloc _).trans hK2 (fun _ _ e => e)
      have := lCel_sz s hs2
      go_wp2_with fail
      go_ret
      exact ⟨s, rfl, by omega, hT2, hK3⟩
end Go.Proofs.YtofhcgbihonckaaGreat
namespace Go.Proofs.YtofhcgbihonckaaGreat
open Go.RowKit
theorem adds_lit (s l : ByteArray) (n : Nat) (hl : l.size = n) (h : s.size ≤ 100000000) (hn : n ≤ 1000) : ∃ c, (∀ wx : World, (Op.stringOp .add s l).run Tryz.prog wx = .ok (.string c) wx) ∧ c.size = s.size + n := by
  obtain ⟨c, h1, h2, _⟩ := adds_ex s l (by omega)
  exact ⟨c, h1, by omega⟩
theorem adds_txt (s l : ByteArray) (h : s.size ≤ 100000000) (hn : l.size ≤ 100000000) : ∃ c, (∀ wx : World, (Op.stringOp .add s l).run Tryz.prog wx = .ok (.string c) wx) ∧ c.size = s.size + l.size := by
  obtain ⟨c, h1, h2, _⟩ := adds_ex s l (by omega)
  exact ⟨c, h1, h2⟩
def GvO (B b : Nat) (w : World) (f : Nat) (x y : Value) (wr : World) : Prop :=
  ∃ (s : ByteArray) (r : Nat), x = .string s ∧ y = .int .i64 r ∧ r ≤ f ∧ r ≤ 3 ∧ s.size + 250 * r ≤ 750 ∧ Tape B wr b ∧ Keeps (· = b) w wr
def GvI (B b m : Nat) (w : World) (f : Nat) (x y : Value) (wr : World) : Prop :=
  ∃ (s : ByteArray) (r : Nat), x = .string s ∧ y = .int .i64 r ∧ r ≤ f ∧ r ≤ 3 ∧ s.size + 61 * r ≤ m ∧ Tape B wr b ∧ Keeps (· = b) w wr
set_option maxHeartbeats 8000000 in
set_option maxRecDepth 100000 in
theorem grow_value (B b : Nat) (w : World) (h : Tape B w b) :
    Calls Tryz.prog 46 #[.pointer (some ⟨b, 0, none⟩)] w (TxtP B b 750 w) := by
  go_enter Tryz.func46, Tryz.ntmps46
  go_wp2_with fail
  refine (mk_Range B b 1 3 _ h (by omega) (by omega) (by omega)).mono ?_
  rintro e w1 ⟨r, rfl, r0, r1, hT, hK⟩
  obtain ⟨r, rfl⟩ := Int.eq_ofNat_of_zero_le (show 0 ≤ r by omega)
  go_wp2_with fail
  go_loopg [3, 4] r (fun f x y wr => GvO B b w f x y wr)
  case atStart => exact ⟨ByteArray.empty, r, rfl, rfl, by omega, by omega, by simp; omega, hT, hK⟩
  case round =>
    obtain ⟨s, r, rfl, rfl, hf, hr3, hs, hT, hK⟩ := hrel
    obtain ⟨go, rfl⟩ : ∃ x : Nat, x = gk := ⟨_, rfl⟩
    obtain ⟨wo, rfl⟩ : ∃ x : World, x = wr := ⟨_, rfl⟩
    by_cases h0 : 0 < r
    · by_cases hz : s.size = 0
      · obtain rfl := empty_of s hz
        clear hz
        have hez : ByteArray.empty.size = 0 := rfl
        go_wp2_with fail
        refine (mk_N B b 6 _ hT (by omega) (by omega)).mono ?_
        rintro e w2 ⟨q, rfl, q0, q1, hT2, hK2⟩
        have hK3 : Keeps (· = b) w w2 := hK.trans hK2 (fun _ _ e => e)
        have hqc : q = 0 ∨ q = 1 ∨ q = 2 ∨ q = 3 ∨ (4 ≤ q) := by omega
        rcases hqc with rfl | rfl | rfl | rfl | hq
        · obtain ⟨s1, ha1, hs1⟩ := adds_lit ByteArray.empty ⟨#[34, 116, 101, 120, 116, 34]⟩ 6 rfl (by omega) (by omega)
          go_wp2_with fail
          go_roundg (go - 1)
          case measure => omega
          case rel => exact ⟨s1, r - 1, rfl, by go_num, by omega, by omega, by omega, hT2, hK3⟩
        · obtain ⟨s1, ha1, hs1⟩ := adds_lit ByteArray.empty ⟨#[91, 32, 48, 32, 49, 55, 32, 50, 53, 53, 32, 93]⟩ 12 rfl (by omega) (by omega)
          go_wp2_with fail
          go_roundg (go - 1)
          case measure => omega
          case rel => exact ⟨s1, r - 1, rfl, by go_num, by omega, by omega, by omega, hT2, hK3⟩
        · go_wp2_with fail
          refine (grow_label B b _ hT2).mono ?_
          rintro e w3 ⟨lb, rfl, hlb, hT3, hK4⟩
          obtain ⟨l1, ha1, hs1⟩ := adds_txt ⟨#[38]⟩ lb (by decide) (by omega)
          have e1 : (⟨#[38]⟩ : ByteArray).size = 1 := rfl
          obtain ⟨s1, ha2, hs2⟩ := adds_txt ByteArray.empty l1 (by omega) (by omega)
          go_wp2_with fail
          go_roundg (go - 1)
          case measure => omega
          case rel => exact ⟨s1, r - 1, rfl, by go_num, by omega, by omega, by omega, hT3, hK3.trans hK4 (fun _ _ e => e)⟩
        · obtain ⟨s1, ha1, hs1⟩ := adds_lit ByteArray.empty ⟨#[34, 97, 92, 120, 52, 49, 92, 110, 34]⟩ 9 rfl (by omega) (by omega)
          go_wp2_with fail
          go_roundg (go - 1)
          case measure => omega
          case rel => exact ⟨s1, r - 1, rfl, by go_num, by omega, by omega, by omega, hT2, hK3⟩
        · have z0 : (q == 0) = false := by rw [beq_eq_false_iff_ne]; omega
          have z1 : (q == 1) = false := by rw [beq_eq_false_iff_ne]; omega
          have z2 : (q == 2) = false := by rw [beq_eq_false_iff_ne]; omega
          have z3 : (q == 3) = false := by rw [beq_eq_false_iff_ne]; omega
          obtain ⟨s1, ha1, hs1⟩ := adds_lit ByteArray.empty ⟨#[60]⟩ 1 rfl (by omega) (by omega)
          go_wp2_with fail
          refine (mk_N B b 4 _ hT2 (by omega) (by omega)).mono ?_
          rintro e w3 ⟨k, rfl, k0, k1, hT3, hK4⟩
          obtain ⟨k, rfl⟩ := Int.eq_ofNat_of_zero_le k0
          have hK5 : Keeps (· = b) w w3 := hK3.trans hK4 (fun _ _ e => e)
          clear ha1 z0 z1 z2 z3 hq q0 q1
          go_wp2_with fail
          go_loopg [3, 5] k (fun f x y wr => GvI B b (s1.size + 183) w f x y wr)
          case atStart => exact ⟨s1, k, rfl, rfl, by omega, by omega, by omega, hT3, hK5⟩
          case round =>
            obtain ⟨s2, k, rfl, rfl, hf2, hk3, hs2, hT4, hK6⟩ := hrel
            by_cases hk : 0 < k
            · go_wp2_with fail
              refine (grow_cell B b _ hT4).mono ?_
              rintro e w4 ⟨c, rfl, hc, hT5, hK7⟩
              obtain ⟨c1, ha2, hs3⟩ := adds_lit c ⟨#[32]⟩ 1 rfl (by omega) (by omega)
              obtain ⟨s3, ha3, hs4⟩ := adds_txt s2 c1 (by omega) (by omega)
              go_wp2_with fail
              go_roundg (gk - 1)
              case measure => omega
              case rel => exact ⟨s3, k - 1, rfl, by go_num, by omega, by omega, by omega, hT5, hK6.trans hK7 (fun _ _ e => e)⟩
            · obtain ⟨s3, ha3, hs4⟩ := adds_lit s2 ⟨#[62]⟩ 1 rfl (by omega) (by omega)
              go_wp2_with fail
              go_roundg (go - 1)
              case measure => omega
              case rel => exact ⟨s3, r - 1, rfl, by go_num, by omega, by omega, by omega, hT4, hK6⟩
      · have hne := toList_ne s (by omega)
        have hne2 := toList_isEmpty s (by omega)
        obtain ⟨s0, ha0, hs0⟩ := adds_lit s ⟨#[44, 32]⟩ 2 rfl (by omega) (by omega)
        go_wp2_with fail
        clear ha0 hne hne2
        refine (mk_N B b 6 _ hT (by omega) (by omega)).mono ?_
        rintro e w2 ⟨q, rfl, q0, q1, hT2, hK2⟩
        have hK3 : Keeps (· = b) w w2 := hK.trans hK2 (fun _ _ e => e)
        have hqc : q = 0 ∨ q = 1 ∨ q = 2 ∨ q = 3 ∨ (4 ≤ q) := by omega
        rcases hqc with rfl | rfl | rfl | rfl | hq
        · obtain ⟨s1, ha1, hs1⟩ := adds_lit s0 ⟨#[34, 116, 101, 120, 116, 34]⟩ 6 rfl (by omega) (by omega)
          go_wp2_with fail
          go_roundg (go - 1)
          case measure => omega
          case rel => exact ⟨s1, r - 1, rfl, by go_num, by omega, by omega, by omega, hT2, hK3⟩
        · obtain ⟨s1, ha1, hs1⟩ := adds_lit s0 ⟨#[91, 32, 48, 32, 49, 55, 32, 50, 53, 53, 32, 93]⟩ 12 rfl (by omega) (by omega)
          go_wp2_with fail
          go_roundg (go - 1)
          case measure => omega
          case rel => exact ⟨s1, r - 1, rfl, by go_num, by omega, by omega, by omega, hT2, hK3⟩
        · go_wp2_with fail
          refine (grow_label B b _ hT2).mono ?_
          rintro e w3 ⟨lb, rfl, hlb, hT3, hK4⟩
          obtain ⟨l1, ha1, hs1⟩ := adds_txt ⟨#[38]⟩ lb (by decide) (by omega)
          have e1 : (⟨#[38]⟩ : ByteArray).size = 1 := rfl
          obtain ⟨s1, ha2, hs2⟩ := adds_txt s0 l1 (by omega) (by omega)
          go_wp2_with fail
          go_roundg (go - 1)
          case measure => omega
          case rel => exact ⟨s1, r - 1, rfl, by go_num, by omega, by omega, by omega, hT3, hK3.trans hK4 (fun _ _ e => e)⟩
        · obtain ⟨s1, ha1, hs1⟩ := adds_lit s0 ⟨#[34, 97, 92, 120, 52, 49, 92, 110, 34]⟩ 9 rfl (by omega) (by omega)
          go_wp2_with fail
          go_roundg (go - 1)
          case measure => omega
          case rel => exact ⟨s1, r - 1, rfl, by go_num, by omega, by omega, by omega, hT2, hK3⟩
        · have z0 : (q == 0) = false := by rw [beq_eq_false_iff_ne]; omega
          have z1 : (q == 1) = false := by rw [beq_eq_false_iff_ne]; omega
          have z2 : (q == 2) = false := by rw [beq_eq_false_iff_ne]; omega
          have z3 : (q == 3) = false := by rw [beq_eq_false_iff_ne]; omega
          obtain ⟨s1, ha1, hs1⟩ := adds_lit s0 ⟨#[60]⟩ 1 rfl (by omega) (by omega)
          go_wp2_with fail
          refine (mk_N B b 4 _ hT2 (by omega) (by omega)).mono ?_
          rintro e w3 ⟨k, rfl, k0, k1, hT3, hK4⟩
          obtain ⟨k, rfl⟩ := Int.eq_ofNat_of_zero_le k0
          have hK5 : Keeps (· = b) w w3 := hK3.trans hK4 (fun _ _ e => e)
          clear ha1 z0 z1 z2 z3 hq q0 q1
          go_wp2_with fail
          go_loopg [3, 5] k (fun f x y wr => GvI B b (s1.size + 183) w f x y wr)
          case atStart => exact ⟨s1, k, rfl, rfl, by omega, by omega, by omega, hT3, hK5⟩
          case round =>
            obtain ⟨s2, k, rfl, rfl, hf2, hk3, hs2, hT4, hK6⟩ := hrel
            by_cases hk : 0 < k
            · go_wp2_with fail
              refine (grow_cell B b _ hT4).mono ?_
              rintro e w4 ⟨c, rfl, hc, hT5, hK7⟩
              obtain ⟨c1, ha2, hs3⟩ := adds_lit c ⟨#[32]⟩ 1 rfl (by omega) (by omega)
              obtain ⟨s3, ha3, hs4⟩ := adds_txt s2 c1 (by omega) (by omega)
              go_wp2_with fail
              go_roundg (gk - 1)
              case measure => omega
              case rel => exact ⟨s3, k - 1, rfl, by go_num, by omega, by omega, by omega, hT5, hK6.trans hK7 (fun _ _ e => e)⟩
            · obtain ⟨s3, ha3, hs4⟩ := adds_lit s2 ⟨#[62]⟩ 1 rfl (by omega) (by omega)
              go_wp2_with fail
              go_roundg (go - 1)
              case measure => omega
              case rel => exact ⟨s3, r - 1, rfl, by go_num, by omega, by omega, by omega, hT4, hK6⟩
    · go_wp2_with fail
      go_ret
      exact ⟨s, rfl, by omega, hT, hK⟩
end Go.Proofs.YtofhcgbihonckaaGreat
namespace Go.Proofs.YtofhcgbihonckaaGreat
open Go.RowKit
theorem lName_sz : ∀ s ∈ lName, s.size ≤ 6 := by decide
theorem lProp_sz : ∀ s ∈ lProperty, s.size ≤ 10 := by decide
def lPh : List ByteArray := [⟨#[49]⟩, ⟨#[50]⟩, ⟨#[55]⟩, ⟨#[57]⟩]
theorem lPh_sz : ∀ s ∈ lPh, s.size ≤ 1 := by decide
def lInc : List ByteArray := [⟨#[97]⟩, ⟨#[98]⟩, ⟨#[109, 97, 105, 110]⟩, ⟨#[110, 111, 110, 101]⟩]
theorem lInc_sz : ∀ s ∈ lInc, s.size ≤ 4 := by decide
def mlen : Nat → Nat
  | 0 => 3200
  | k + 1 => 4 * (mlen k + 800)
def GmO (B b k : Nat) (w : World) (f : Nat) (x y : Value) (wr : World) : Prop :=
  ∃ (s : ByteArray) (r : Nat), x = .string s ∧ y = .int .i64 r ∧ r ≤ f ∧ r ≤ 4 ∧ s.size + k * r ≤ 4 * k ∧ Tape B wr b ∧ Keeps (· = b) w wr
set_option maxHeartbeats 8000000 in
set_option maxRecDepth 100000 in
theorem grow_MembersK (B b d k m : Nat) (hd : d ≤ 4) (hk : 800 ≤ k ∧ k ≤ 10000000) (hm : m = 4 * k) (hrec : 0 < d → ∀ (w : World), Tape B w b →
      Calls Tryz.prog 26 #[.pointer (some ⟨b, 0, none⟩), .int .i64 ((d : Int) - 1)] w (TxtP B b (k - 800) w)) (w : World) (h : Tape B w b) :
    Calls Tryz.prog 26 #[.pointer (some ⟨b, 0, none⟩), .int .i64 d] w (TxtP B b m w) := by
  obtain ⟨hk0, hk1⟩ := hk
  have HR := Lib.hid hrec
  have HM := Lib.hid hm
  clear hrec hm
  go_enter Tryz.func26, Tryz.ntmps26
  go_wp2_with fail
  refine (mk_N B b 5 _ h (by omega) (by omega)).mono ?_
  rintro e w1 ⟨r, rfl, r0, r1, hT, hK⟩
  obtain ⟨r, rfl⟩ := Int.eq_ofNat_of_zero_le r0
  go_wp2_with fail
  go_loopg [5, 6] r (fun f x y wr => GmO B b k w f x y wr)
  case atStart => exact ⟨ByteArray.empty, r, rfl, rfl, by omega, by omega, by rw [show ByteArray.empty.size = 0 from rfl, Nat.zero_add, Nat.mul_comm]; exact Nat.mul_le_mul_right _ (by omega), hT, hK⟩
  case round =>
    obtain ⟨s, r, rfl, rfl, hf, hr3, hs, hT, hK⟩ := hrel
    by_cases h0 : 0 < r
    · have hs' : s.size + k + k * (r - 1) ≤ 4 * k := by
        obtain ⟨r', rfl⟩ : ∃ r', r = r' + 1 := ⟨r - 1, by omega⟩
        rw [Nat.mul_add, Nat.mul_one] at hs; rw [Nat.add_sub_cancel]; omega
      have hs1 : s.size ≤ 40000000 := by omega
      have HS := Lib.hid hs'
      clear hs hs'
      go_wp2_with fail
      refine (mk_N B b 12 _ hT (by omega) (by omega)).mono ?_
      rintro e w2 ⟨q, rfl, q0, q1, hT2, hK2⟩
      have hK3 : Keeps (· = b) w w2 := hK.trans hK2 (fun _ _ e => e)
      have hqc : q < 5 ∨ q = 5 ∨ q = 6 ∨ q = 7 ∨ q = 8 ∨ (8 < q) := by omega
      rcases hqc with hq | rfl | rfl | rfl | rfl | hq
      · go_wp2_with fail
        refine (mk_Property B b _ hT2).mono ?_
        rintro e w3 ⟨p, rfl, hp, hT3, hK4⟩
        have hps := lProp_sz p hp
        obtain ⟨c1, hac1, hzc1⟩ := adds_lit p ⟨#[32, 61, 32]⟩ 3 rfl (by omega) (by omega)
        go_wp2_with fail
        refine (grow_value B b _ hT3).mono ?_
        rintro e w4 ⟨v, rfl, hv, hT4, hK5⟩
        obtain ⟨c2, hac2, hzc2⟩ := adds_txt c1 v (by omega) (by omega)
        obtain ⟨c3, hac3, hzc3⟩ := adds_lit c2 ⟨#[59, 32]⟩ 2 rfl (by omega) (by omega)
        obtain ⟨c4, hac4, hzc4⟩ := adds_txt s c3 (by omega) (by omega)
        go_wp2_with fail
        go_roundg (gk - 1)
        case measure => omega
        case rel => exact ⟨c4, r - 1, rfl, by go_num, by omega, by omega, by have := HS.out; omega, hT4, (hK3.trans hK4 (fun _ _ e => e)).trans hK5 (fun _ _ e => e)⟩
      · go_wp2_with fail
        refine (mk_Property B b _ hT2).mono ?_
        rintro e w3 ⟨p, rfl, hp, hT3, hK4⟩
        have hps := lProp_sz p hp
        obtain ⟨c1, hac1, hzc1⟩ := adds_lit p ⟨#[59, 32]⟩ 2 rfl (by omega) (by omega)
        obtain ⟨c4, hac4, hzc4⟩ := adds_txt s c1 (by omega) (by omega)
        go_wp2_with fail
        go_roundg (gk - 1)
        case measure => omega
        case rel => exact ⟨c4, r - 1, rfl, by go_num, by omega, by omega, by have := HS.out; omega, hT3, hK3.trans hK4 (fun _ _ e => e)⟩
      · go_wp2_with fail
        refine (mk_Property B b _ hT2).mono ?_
        rintro e w3 ⟨p, rfl, hp, hT3, hK4⟩
        have hps := lProp_sz p hp
        obtain ⟨c1, hac1, hzc1⟩ := adds_txt ⟨#[47, 100, 101, 108, 101, 116, 101, 45, 112, 114, 111, 112, 101, 114, 116, 121, 47, 32]⟩ p (by decide) (by omega)
        have hlc1 : (⟨#[47, 100, 101, 108, 101, 116, 101, 45, 112, 114, 111, 112, 101, 114, 116, 121, 47, 32]⟩ : ByteArray).size = 18 := rfl
        obtain ⟨c2, hac2, hzc2⟩ := adds_lit c1 ⟨#[59, 32]⟩ 2 rfl (by omega) (by omega)
        obtain ⟨c4, hac4, hzc4⟩ := adds_txt s c2 (by omega) (by omega)
        go_wp2_with fail
        go_roundg (gk - 1)
        case measure => omega
        case rel => exact ⟨c4, r - 1, rfl, by go_num, by omega, by omega, by have := HS.out; omega, hT3, hK3.trans hK4 (fun _ _ e => e)⟩
      · go_wp2_with fail
        refine (mk_Name B b _ hT2).mono ?_
        rintro e w3 ⟨p, rfl, hp, hT3, hK4⟩
        have hps := lName_sz p hp
        obtain ⟨c1, hac1, hzc1⟩ := adds_txt ⟨#[47, 100, 101, 108, 101, 116, 101, 45, 110, 111, 100, 101, 47, 32]⟩ p (by decide) (by omega)
        have hlc1 : (⟨#[47, 100, 101, 108, 101, 116, 101, 45, 110, 111, 100, 101, 47, 32]⟩ : ByteArray).size = 14 := rfl
        obtain ⟨c2, hac2, hzc2⟩ := adds_lit c1 ⟨#[59, 10]⟩ 2 rfl (by omega) (by omega)
        obtain ⟨c4, hac4, hzc4⟩ := adds_txt s c2 (by omega) (by omega)
        go_wp2_with fail
        go_roundg (gk - 1)
        case measure => omega
        case rel => exact ⟨c4, r - 1, rfl, by go_num, by omega, by omega, by have := HS.out; omega, hT3, hK3.trans hK4 (fun _ _ e => e)⟩
      · go_wp2_with fail
        refine (mk_N B b 3 _ hT2 (by omega) (by omega)).mono ?_
        rintro e w2b ⟨y, rfl, y0, y1, hT2b, hK3b⟩
        by_cases hy : y = 0
        · subst hy
          have hl3 := hT2b.lt
          go_wp2_with fail
          refine (mk_N B b 4 _ (hT2b.keeps ((Keeps.refl (fun _ => False) w2b).alloc _) (fun _ e => e.elim)) (by omega) (by omega)).mono ?_
          rintro e w3 ⟨x, rfl, x0, x1, hT3, hK4⟩
          obtain ⟨x, rfl⟩ := Int.eq_ofNat_of_zero_le x0
          have hH := (Holds.new w2b (lPh.map Value.string).toArray 9).keeps hK4 (by omega)
          obtain ⟨t, ht1, ht2⟩ := pick_one lPh x (by have : lPh.length = 4 := rfl; omega)
          have hc : w3.cell? ⟨w2b.heap.size, x, none⟩ = some (.string t) := (hH.cell x).trans (by simp [ht1])
          have hK5 : Keeps (fun i => i = b) w w3 := ((hK3.trans hK3b (fun _ _ e => e)).alloc _).trans hK4 (fun _ _ e => e)
          have htz := lPh_sz t ht2
          obtain ⟨c1, hac1, hzc1⟩ := adds_txt ⟨#[112, 104, 97, 110, 100, 108, 101, 32, 61, 32, 60]⟩ t (by decide) (by omega)
          have hlc1 : (⟨#[112, 104, 97, 110, 100, 108, 101, 32, 61, 32, 60]⟩ : ByteArray).size = 11 := rfl
          obtain ⟨c2, hac2, hzc2⟩ := adds_lit c1 ⟨#[62, 59, 32]⟩ 3 rfl (by omega) (by omega)
          obtain ⟨c4, hac4, hzc4⟩ := adds_txt s c2 (by omega) (by omega)
          go_wp2_with fail
          go_roundg (gk - 1)
          case measure => omega
          case rel => exact ⟨c4, r - 1, rfl, by go_num, by omega, by omega, by have := HS.out; omega, hT3, hK5⟩
        · have hy' : (y == 0) = false := by rw [beq_eq_false_iff_ne]; exact hy
          by_cases hd0 : 0 < d
          · have hd1 : (0 : Int) < (d : Int) := by omega
            go_wp2_with fail
            refine (mk_N B b 2 _ hT2b (by omega) (by omega)).mono ?_
            rintro e w3 ⟨z, rfl, z0, z1, hT3, hK4⟩
            have hK6 : Keeps (· = b) w w3 := (hK3.trans hK3b (fun _ _ e => e)).trans hK4 (fun _ _ e => e)
            have hzc : z = 0 ∨ z = 1 := by omega
            rcases hzc with rfl | rfl
            · go_wp2_with fail
              refine (grow_label B b _ hT3).mono ?_
              rintro e w4 ⟨lb, rfl, hlb, hT4, hK7⟩
              obtain ⟨l1, hal1, hzl1⟩ := adds_lit lb ⟨#[58, 32]⟩ 2 rfl (by omega) (by omega)
              obtain ⟨s1, has1, hzs1⟩ := adds_txt s l1 (by omega) (by omega)
              go_wp2_with fail
              refine (mk_Name B b _ hT4).mono ?_
              rintro e w5 ⟨nm, rfl, hnm, hT5, hK8⟩
              have hps := lName_sz nm hnm
              obtain ⟨n1, han1, hzn1⟩ := adds_lit nm ⟨#[32, 123, 10]⟩ 3 rfl (by omega) (by omega)
              go_wp2_with fail
              refine (HR.out hd0 _ hT5).mono ?_
              rintro e w6 ⟨mm, rfl, hmm, hT6, hK9⟩
              obtain ⟨n2, han2, hzn2⟩ := adds_txt n1 mm (by omega) (by omega)
              obtain ⟨n3, han3, hzn3⟩ := adds_lit n2 ⟨#[125, 59, 10]⟩ 3 rfl (by omega) (by omega)
              obtain ⟨c4, hac4, hzc4⟩ := adds_txt s1 n3 (by omega) (by omega)
              go_wp2_with fail
              go_roundg (gk - 1)
              case measure => omega
              case rel => exact ⟨c4, r - 1, rfl, by go_num, by omega, by omega, by have := HS.out; omega, hT6, ((hK6.trans hK7 (fun _ _ e => e)).trans hK8 (fun _ _ e => e)).trans hK9 (fun _ _ e => e)⟩
            · go_wp2_with fail
              refine (mk_Name B b _ hT3).mono ?_
              rintro e w5 ⟨nm, rfl, hnm, hT5, hK8⟩
              have hps := lName_sz nm hnm
              obtain ⟨n1, han1, hzn1⟩ := adds_lit nm ⟨#[32, 123, 10]⟩ 3 rfl (by omega) (by omega)
              go_wp2_with fail
              refine (HR.out hd0 _ hT5).mono ?_
              rintro e w6 ⟨mm, rfl, hmm, hT6, hK9⟩
              obtain ⟨n2, han2, hzn2⟩ := adds_txt n1 mm (by omega) (by omega)
              obtain ⟨n3, han3, hzn3⟩ := adds_lit n2 ⟨#[125, 59, 10]⟩ 3 rfl (by omega) (by omega)
              obtain ⟨c4, hac4, hzc4⟩ := adds_txt s n3 (by omega) (by omega)
              go_wp2_with fail
              go_roundg (gk - 1)
              case measure => omega
              case rel => exact ⟨c4, r - 1, rfl, by go_num, by omega, by omega, by have := HS.out; omega, hT6, (hK6.trans hK8 (fun _ _ e => e)).trans hK9 (fun _ _ e => e)⟩
          · have hd1 : d = 0 := by omega
            subst hd1
            go_wp2_with fail
            go_roundg (gk - 1)
            case measure => omega
            case rel => exact ⟨s, r - 1, rfl, by go_num, by omega, by omega, by have := HS.out; omega, hT2b, hK3.trans hK3b (fun _ _ e => e)⟩
      · have z1 : (q == 5) = false := by rw [beq_eq_false_iff_ne]; omega
        have z2 : (q == 6) = false := by rw [beq_eq_false_iff_ne]; omega
        have z3 : (q == 7) = false := by rw [beq_eq_false_iff_ne]; omega
        have z4 : (q == 8) = false := by rw [beq_eq_false_iff_ne]; omega
        by_cases hd0 : 0 < d
        · have hd1 : (0 : Int) < (d : Int) := by omega
          go_wp2_with fail
          refine (mk_N B b 2 _ hT2 (by omega) (by omega)).mono ?_
          rintro e w3 ⟨z, rfl, z0, z1, hT3, hK4⟩
          have hK6 : Keeps (· = b) w w3 := (hK3).trans hK4 (fun _ _ e => e)
          have hzc : z = 0 ∨ z = 1 := by omega
          rcases hzc with rfl | rfl
          · go_wp2_with fail
            refine (grow_label B b _ hT3).mono ?_
            rintro e w4 ⟨lb, rfl, hlb, hT4, hK7⟩
            obtain ⟨l1, hal1, hzl1⟩ := adds_lit lb ⟨#[58, 32]⟩ 2 rfl (by omega) (by omega)
            obtain ⟨s1, has1, hzs1⟩ := adds_txt s l1 (by omega) (by omega)
            go_wp2_with fail
            refine (mk_Name B b _ hT4).mono ?_
            rintro e w5 ⟨nm, rfl, hnm, hT5, hK8⟩
            have hps := lName_sz nm hnm
            obtain ⟨n1, han1, hzn1⟩ := adds_lit nm ⟨#[32, 123, 10]⟩ 3 rfl (by omega) (by omega)
            go_wp2_with fail
            refine (HR.out hd0 _ hT5).mono ?_
            rintro e w6 ⟨mm, rfl, hmm, hT6, hK9⟩
            obtain ⟨n2, han2, hzn2⟩ := adds_txt n1 mm (by omega) (by omega)
            obtain ⟨n3, han3, hzn3⟩ := adds_lit n2 ⟨#[125, 59, 10]⟩ 3 rfl (by omega) (by omega)
            obtain ⟨c4, hac4, hzc4⟩ := adds_txt s1 n3 (by omega) (by omega)
            go_wp2_with fail
            go_roundg (gk - 1)
            case measure => omega
            case rel => exact ⟨c4, r - 1, rfl, by go_num, by omega, by omega, by have := HS.out; omega, hT6, ((hK6.trans hK7 (fun _ _ e => e)).trans hK8 (fun _ _ e => e)).trans hK9 (fun _ _ e => e)⟩
          · go_wp2_with fail
            refine (mk_Name B b _ hT3).mono ?_
            rintro e w5 ⟨nm, rfl, hnm, hT5, hK8⟩
            have hps := lName_sz nm hnm
            obtain ⟨n1, han1, hzn1⟩ := adds_lit nm ⟨#[32, 123, 10]⟩ 3 rfl (by omega) (by omega)
            go_wp2_with fail
            refine (HR.out hd0 _ hT5).mono ?_
            rintro e w6 ⟨mm, rfl, hmm, hT6, hK9⟩
            obtain ⟨n2, han2, hzn2⟩ := adds_txt n1 mm (by omega) (by omega)
            obtain ⟨n3, han3, hzn3⟩ := adds_lit n2 ⟨#[125, 59, 10]⟩ 3 rfl (by omega) (by omega)
            obtain ⟨c4, hac4, hzc4⟩ := adds_txt s n3 (by omega) (by omega)
            go_wp2_with fail
            go_roundg (gk - 1)
            case measure => omega
            case rel => exact ⟨c4, r - 1, rfl, by go_num, by omega, by omega, by have := HS.out; omega, hT6, (hK6.trans hK8 (fun _ _ e => e)).trans hK9 (fun _ _ e => e)⟩
        · have hd1 : d = 0 := by omega
          subst hd1
          go_wp2_with fail
          go_roundg (gk - 1)
          case measure => omega
          case rel => exact ⟨s, r - 1, rfl, by go_num, by omega, by omega, by have := HS.out; omega, hT2, hK3⟩
    · have hr0 : r = 0 := by omega
      subst hr0
      have hfin : s.size ≤ m := by rw [HM.out]; omega
      go_wp2_with fail
      go_ret
      exact ⟨s, rfl, hfin, hT, hK⟩
set_option maxHeartbeats 8000000 in
set_option maxRecDepth 100000 in
theorem grow_Members (B b : Nat) : ∀ (d : Nat), d ≤ 4 → ∀ (w : World), Tape B w b →
    Calls Tryz.prog 26 #[.pointer (some ⟨b, 0, none⟩), .int .i64 d] w (TxtP B b (mlen d) w) := by
  intro d
  induction d with
  | zero => intro _; exact grow_MembersK B b 0 800 3200 (by omega) (by omega) (by omega) (fun h => by omega)
  | succ d ih =>
    intro hd
    have hm : mlen d ≤ 1000000 := by
      have hc : d = 0 ∨ d = 1 ∨ d = 2 ∨ d = 3 := by omega
      rcases hc with rfl | rfl | rfl | rfl <;> simp [mlen]
    refine grow_MembersK B b (d + 1) (mlen d + 800) (4 * (mlen d + 800)) (by omega) (by omega) (by omega) (fun _ w hT => ?_)
    have := ih (by omega) w hT
    rw [show ((d + 1 : Nat) : Int) - 1 = (d : Int) from by omega]
    refine this.mono ?_
    rintro e w2 ⟨s, h1, h2, h3⟩
    exact ⟨s, h1, by omega, h3⟩
end Go.Proofs.YtofhcgbihonckaaGreat
namespace Go.Proofs.YtofhcgbihonckaaGreat
open Go.RowKit
def GdO (B b n : Nat) (w : World) (f : Nat) (x y : Value) (wr : World) : Prop :=
  ∃ (s : ByteArray) (r : Nat), x = .string s ∧ y = .int .i64 r ∧ r ≤ f ∧ r ≤ n ∧ s.size + 300000 * r ≤ 300000 * n ∧ Tape B wr b ∧ Keeps (· = b) w wr
set_option maxHeartbeats 8000000 in
set_option maxRecDepth 100000 in
theorem grow_Document (B b n : Nat) (hn : 1 ≤ n ∧ n ≤ 10) (w : World) (h : Tape B w b) :
    Calls Tryz.prog 10 #[.pointer (some ⟨b, 0, none⟩), .int .i64 n] w (TxtP B b (300000 * n) w) := by
  obtain ⟨hn0, hn1⟩ := hn
  go_enter Tryz.func10, Tryz.ntmps10
  go_wp2_with fail
  refine (mk_Range B b 1 n _ h (by omega) (by omega) (by omega)).mono ?_
  rintro e w1 ⟨r, rfl, r0, r1, hT, hK⟩
  obtain ⟨r, rfl⟩ := Int.eq_ofNat_of_zero_le (show 0 ≤ r by omega)
  go_wp2_with fail
  go_loopg [5, 6] r (fun f x y wr => GdO B b n w f x y wr)
  case atStart => exact ⟨ByteArray.empty, r, rfl, rfl, by omega, by omega, by rw [show ByteArray.empty.size = 0 from rfl]; omega, hT, hK⟩
  case round =>
    obtain ⟨s, r, rfl, rfl, hf, hr3, hs, hT, hK⟩ := hrel
    by_cases h0 : 0 < r
    · have hs1 : s.size ≤ 4000000 := by omega
      go_wp2_with fail
      refine (mk_N B b 8 _ hT (by omega) (by omega)).mono ?_
      rintro e w2 ⟨q, rfl, q0, q1, hT2, hK2⟩
      have hK3 : Keeps (· = b) w w2 := hK.trans hK2 (fun _ _ e => e)
      have hm1 : mlen 1 = 16000 := rfl
      have hm3 : mlen 3 = 272000 := rfl
      have hqc : q = 0 ∨ q = 1 ∨ q = 2 ∨ (2 < q) := by omega
      rcases hqc with rfl | rfl | rfl | hq
      · go_wp2_with fail
        refine (grow_label B b _ hT2).mono ?_
        rintro e w4 ⟨lb, rfl, hlb, hT4, hK7⟩
        obtain ⟨l1, hal1, hzl1⟩ := adds_txt ⟨#[38]⟩ lb (by decide) (by omega)
        have hll1 : (⟨#[38]⟩ : ByteArray).size = 1 := rfl
        obtain ⟨l2, hal2, hzl2⟩ := adds_lit l1 ⟨#[32, 123, 32]⟩ 3 rfl (by omega) (by omega)
        go_wp2_with fail
        refine (grow_Members B b 1 (by omega) _ hT4).mono ?_
        rintro e w6 ⟨mm, rfl, hmm, hT6, hK9⟩
        obtain ⟨n2, han2, hzn2⟩ := adds_txt l2 mm (by omega) (by omega)
        obtain ⟨n3, han3, hzn3⟩ := adds_lit n2 ⟨#[125, 59, 10]⟩ 3 rfl (by omega) (by omega)
        obtain ⟨c4, hac4, hzc4⟩ := adds_txt s n3 (by omega) (by omega)
        go_wp2_with fail
        go_roundg (gk - 1)
        case measure => omega
        case rel => exact ⟨c4, r - 1, rfl, by go_num, by omega, by omega, by omega, hT6, (hK3.trans hK7 (fun _ _ e => e)).trans hK9 (fun _ _ e => e)⟩
      · go_wp2_with fail
        refine (grow_label B b _ hT2).mono ?_
        rintro e w4 ⟨lb, rfl, hlb, hT4, hK7⟩
        obtain ⟨l1, hal1, hzl1⟩ := adds_txt ⟨#[47, 100, 101, 108, 101, 116, 101, 45, 110, 111, 100, 101, 47, 32, 38]⟩ lb (by decide) (by omega)
        have hll1 : (⟨#[47, 100, 101, 108, 101, 116, 101, 45, 110, 111, 100, 101, 47, 32, 38]⟩ : ByteArray).size = 15 := rfl
        obtain ⟨l2, hal2, hzl2⟩ := adds_lit l1 ⟨#[59, 10]⟩ 2 rfl (by omega) (by omega)
        obtain ⟨c4, hac4, hzc4⟩ := adds_txt s l2 (by omega) (by omega)
        go_wp2_with fail
        go_roundg (gk - 1)
        case measure => omega
        case rel => exact ⟨c4, r - 1, rfl, by go_num, by omega, by omega, by omega, hT4, hK3.trans hK7 (fun _ _ e => e)⟩
      · go_wp2_with fail
        refine (mk_N B b 3 _ hT2 (by omega) (by omega)).mono ?_
        rintro e w2b ⟨y, rfl, y0, y1, hT2b, hK3b⟩
        by_cases hy : y = 0
        · subst hy
          have hl3 := hT2b.lt
          go_wp2_with fail
          refine (mk_N B b 4 _ (hT2b.keeps ((Keeps.refl (fun _ => False) w2b).alloc _) (fun _ e => e.elim)) (by omega) (by omega)).mono ?_
          rintro e w3 ⟨x, rfl, x0, x1, hT3, hK4⟩
          obtain ⟨x, rfl⟩ := Int.eq_ofNat_of_zero_le x0
          have hH := (Holds.new w2b (lInc.map Value.string).toArray 9).keeps hK4 (by omega)
          obtain ⟨t, ht1, ht2⟩ := pick_one lInc x (by have : lInc.length = 4 := rfl; omega)
          have hc : w3.cell? ⟨w2b.heap.size, x, none⟩ = some (.string t) := (hH.cell x).trans (by simp [ht1])
          have hK5 : Keeps (fun i => i = b) w w3 := ((hK3.trans hK3b (fun _ _ e => e)).alloc _).trans hK4 (fun _ _ e => e)
          have htz := lInc_sz t ht2
          obtain ⟨c1, hac1, hzc1⟩ := adds_txt ⟨#[47, 105, 110, 99, 108, 117, 100, 101, 47, 32, 34]⟩ t (by decide) (by omega)
          have hlc1 : (⟨#[47, 105, 110, 99, 108, 117, 100, 101, 47, 32, 34]⟩ : ByteArray).size = 11 := rfl
          obtain ⟨c2, hac2, hzc2⟩ := adds_lit c1 ⟨#[34, 59, 10]⟩ 3 rfl (by omega) (by omega)
          obtain ⟨c4, hac4, hzc4⟩ := adds_txt s c2 (by omega) (by omega)
          go_wp2_with fail
          go_roundg (gk - 1)
          case measure => omega
          case rel => exact ⟨c4, r - 1, rfl, by go_num, by omega, by omega, by omega, hT3, hK5⟩
        · have hy' : (y == 0) = false := by rw [beq_eq_false_iff_ne]; exact hy
          go_wp2_with fail
          go_roundg (gk - 1)
          case measure => omega
          case rel => exact ⟨s, r - 1, rfl, by go_num, by omega, by omega, by omega, hT2b, hK3.trans hK3b (fun _ _ e => e)⟩
      · have z1 : (q == 0) = false := by rw [beq_eq_false_iff_ne]; omega
        have z2 : (q == 1) = false := by rw [beq_eq_false_iff_ne]; omega
        have z3 : (q == 2) = false := by rw [beq_eq_false_iff_ne]; omega
        go_wp2_with fail
        refine (mk_N B b 4 _ hT2 (by omega) (by omega)).mono ?_
        rintro e w3 ⟨z, rfl, z0, z1', hT3, hK4⟩
        have hK6 : Keeps (· = b) w w3 := hK3.trans hK4 (fun _ _ e => e)
        by_cases hz : z = 0
        · subst hz
          go_wp2_with fail
          refine (grow_label B b _ hT3).mono ?_
          rintro e w4 ⟨lb, rfl, hlb, hT4, hK7⟩
          obtain ⟨l1, hal1, hzl1⟩ := adds_lit lb ⟨#[58, 32]⟩ 2 rfl (by omega) (by omega)
          obtain ⟨s1, has1, hzs1⟩ := adds_txt s l1 (by omega) (by omega)
          go_wp2_with fail
          refine (grow_Members B b 3 (by omega) _ hT4).mono ?_
          rintro e w6 ⟨mm, rfl, hmm, hT6, hK9⟩
          obtain ⟨n2, han2, hzn2⟩ := adds_txt ⟨#[47, 32, 123, 32]⟩ mm (by decide) (by omega)
          have hln2 : (⟨#[47, 32, 123, 32]⟩ : ByteArray).size = 4 := rfl
          obtain ⟨n3, han3, hzn3⟩ := adds_lit n2 ⟨#[125, 59, 10]⟩ 3 rfl (by omega) (by omega)
          obtain ⟨c4, hac4, hzc4⟩ := adds_txt s1 n3 (by omega) (by omega)
          go_wp2_with fail
          go_roundg (gk - 1)
          case measure => omega
          case rel => exact ⟨c4, r - 1, rfl, by go_num, by omega, by omega, by omega, hT6, (hK6.trans hK7 (fun _ _ e => e)).trans hK9 (fun _ _ e => e)⟩
        · have hz' : (z == 0) = false := by rw [beq_eq_false_iff_ne]; exact hz
          go_wp2_with fail
          refine (grow_Members B b 3 (by omega) _ hT3).mono ?_
          rintro e w6 ⟨mm, rfl, hmm, hT6, hK9⟩
          obtain ⟨n2, han2, hzn2⟩ := adds_txt ⟨#[47, 32, 123, 32]⟩ mm (by decide) (by omega)
          have hln2 : (⟨#[47, 32, 123, 32]⟩ : ByteArray).size = 4 := rfl
          obtain ⟨n3, han3, hzn3⟩ := adds_lit n2 ⟨#[125, 59, 10]⟩ 3 rfl (by omega) (by omega)
          obtain ⟨c4, hac4, hzc4⟩ := adds_txt s n3 (by omega) (by omega)
          go_wp2_with fail
          go_roundg (gk - 1)
          case measure => omega
          case rel => exact ⟨c4, r - 1, rfl, by go_num, by omega, by omega, by omega, hT6, hK6.trans hK9 (fun _ _ e => e)⟩
    · go_wp2_with fail
      go_ret
      exact ⟨s, rfl, by omega, hT, hK⟩
end Go.Proofs.YtofhcgbihonckaaGreat
