/- The tape of bringupmake: source texts. | signs of the laws on expressions: some text of bounded length. -/
import Derived.Test.YtiojnbhomjkkgaaGreatDoorZ14
import Derived.Test.YtiojnbhomjkkgaaGreatDoorZ15
import Derived.Test.YtiojnbhomjkkgaaGreatDoorZ16
import Derived.Test.YtiojnbhomjkkgaaGreatDoorZ8
import Derived.Deep.LoopGhost
import Derived.Deep.RegionWith
import Derived.Laws.IdiomStrings
import Derived.IntWalk

set_option linter.unusedVariables false
set_option linter.unusedSimpArgs false
set_option linter.unusedSectionVars false

namespace Go.Proofs.YtiojnbhomjkkgaaGreatDoor
open Go.RowKit

theorem lPiece_size : ∀ s ∈ lPiece, s.size ≤ 20 := by decide
theorem lOdd_size : ∀ s ∈ lOdd, s.size ≤ 20 := by decide

def SrcRel (B b n : Nat) (w : World) (f : Nat) (x y : Value) (wr : World) : Prop :=
  ∃ (s : ByteArray) (r : Nat), x = .string s ∧ y = .int .i64 r ∧ r ≤ f ∧ s.size + 64 * r ≤ 64 * n ∧ Tape B wr b ∧ Keeps (· = b) w wr

set_option maxHeartbeats 4000000 in
theorem mk_Source (B b n : Nat) (w : World) (h : Tape B w b) (hn : n ≤ 1000) :
    Calls Tryz.prog 12 #[.pointer (some ⟨b, 0, none⟩), .int .i64 n] w fun e w' => ∃ s : ByteArray, e = .returned (.string s) ∧ s.size ≤ 64 * n ∧ Tape B w' b ∧ Keeps (· = b) w w' := by
  go_enter Tryz.func12, Tryz.ntmps12
  go_wp2_with fail
  refine (mk_N B b ((n : Int) + 1) _ h (by omega) (by omega)).mono ?_
  rintro e w1 ⟨r, rfl, r0, r1, hT, hK⟩
  obtain ⟨r, rfl⟩ := Int.eq_ofNat_of_zero_le r0
  have hr : r ≤ n := by omega
  go_wp2_with fail
  go_loopg [5, 6] r (fun f x y wr => SrcRel B b n w f x y wr)
  case atStart => exact ⟨ByteArray.empty, r, rfl, rfl, by omega, by simp; omega, hT, hK⟩
  case round =>
    obtain ⟨s, r, rfl, rfl, hf, hs, hT, hK⟩ := hrel
    by_cases h0 : 0 < r
    · go_wp2_with fail
      refine (mk_N B b 40 _ hT (by omega) (by omega)).mono ?_
      rintro e w1 ⟨q, rfl, q0, q1, hT1, hK1⟩
      have hq : ((q == 39) = true) ∨ ((q == 39) = false) := by cases (q == 39) <;> simp
      rcases hq with hq | hq
      · go_wp2_with fail
        refine (mk_Odd B b _ hT1).mono ?_
        rintro e w2 ⟨o, rfl, ho, hT2, hK2⟩
        have hos := lOdd_size o ho
        obtain ⟨s1, ha1, hs1, _⟩ := adds_ex s o (by omega)
        unfold Adds at ha1
        go_wp2_with fail
        refine (mk_Piece B b _ hT2).mono ?_
        rintro e w3 ⟨p, rfl, hp, hT3, hK3⟩
        have hps := lPiece_size p hp
        obtain ⟨s2, ha2, hs2, _⟩ := adds_ex s1 p (by omega)
        unfold Adds at ha2
        go_wp2_with fail
        refine (mk_N B b 3 _ hT3 (by omega) (by omega)).mono ?_
        rintro e w4 ⟨z, rfl, z0, z1, hT4, hK4⟩
        obtain ⟨s3, ha3, hs3, _⟩ := adds_ex s2 ⟨#[32]⟩ (by have : (⟨#[32]⟩ : ByteArray).size = 1 := rfl; omega)
        unfold Adds at ha3
        have hs3' : s3.size = s2.size + 1 := hs3
        have hK5 : Keeps (· = b) w w4 := (((hK.trans hK1 (fun _ _ h => h)).trans hK2 (fun _ _ h => h)).trans hK3 (fun _ _ h => h)).trans hK4 (fun _ _ h => h)
        by_cases hz : 0 < z
        · go_wp2_with fail
          go_roundg (gk - 1)
          case measure => omega
          case rel => exact ⟨s3, r - 1, rfl, by go_num, by omega, by omega, hT4, hK5⟩
        · go_wp2_with fail
          go_roundg (gk - 1)
          case measure => omega
          case rel => exact ⟨s2, r - 1, rfl, by go_num, by omega, by omega, hT4, hK5⟩
      · go_wp2_with fail
        refine (mk_Piece B b _ hT1).mono ?_
        rintro e w3 ⟨p, rfl, hp, hT3, hK3⟩
        have hps := lPiece_size p hp
        obtain ⟨s2, ha2, hs2, _⟩ := adds_ex s p (by omega)
        unfold Adds at ha2
        go_wp2_with fail
        refine (mk_N B b 3 _ hT3 (by omega) (by omega)).mono ?_
        rintro e w4 ⟨z, rfl, z0, z1, hT4, hK4⟩
        obtain ⟨s3, ha3, hs3, _⟩ := adds_ex s2 ⟨#[32]⟩ (by have : (⟨#[32]⟩ : ByteArray).size = 1 := rfl; omega)
        unfold Adds at ha3
        have hs3' : s3.size = s2.size + 1 := hs3
        have hK5 : Keeps (· = b) w w4 := ((hK.trans hK1 (fun _ _ h => h)).trans hK3 (fun _ _ h => h)).trans hK4 (fun _ _ h => h)
        by_cases hz : 0 < z
        · go_wp2_with fail
          go_roundg (gk - 1)
          case measure => omega
          case rel => exact ⟨s3, r - 1, rfl, by go_num, by omega, by omega, hT4, hK5⟩
        · go_wp2_with fail
          go_roundg (gk - 1)
          case measure => omega
          case rel => exact ⟨s2, r - 1, rfl, by go_num, by omega, by omega, hT4, hK5⟩
    · go_wp2_with fail
      go_ret
      exact ⟨s, rfl, by omega, hT, hK⟩

theorem ex_size (s : ByteArray) (a b : Nat) (h : b ≤ s.size) : (s.extract a b).size = b - a := by simp; omega
theorem wrap8 (v : Int) (h0 : 0 ≤ v) (h1 : v < 256) : IntKind.u8.wrap v = v := by
  simp [IntKind.wrap, IntKind.signed, IntKind.bits]; omega
theorem conv_one (w : World) (v : Int) (h0 : 0 ≤ v) (h1 : v < 256) : (convert 78 9 (.slice (some ⟨w.heap.size, 0, none⟩) 1 1)).run Tryz.prog (w.alloc (.cells #[.int .u8 v] 5)) = .ok (.string ⟨#[v.toNat.toUInt8]⟩) (w.alloc (.cells #[.int .u8 v] 5)) := by
  refine run_convert_bytes_back _ _ _ _ ⟨w.heap.size, 0, none⟩ 1 [v.toNat.toUInt8] Tryz.underlying78 Tryz.underlying5 Tryz.underlying9 ?_
  intro j hj
  have hj0 : j = 0 := by simpa using hj
  subst hj0
  refine new_cells w _ _ _ rfl [.int .u8 v] rfl 0 _ ?_
  simp only [List.getElem_cons_zero]
  rw [u8_back v h0 (by omega)]; rfl
def SpoilPost (B b : Nat) (s : ByteArray) (w : World) (e : Ending) (w' : World) : Prop :=
  ∃ s' : ByteArray, e = .returned (.string s') ∧ s'.size ≤ s.size + 64 ∧ Tape B w' b ∧ Keeps (· = b) w w'

set_option maxRecDepth 100000 in
set_option maxHeartbeats 4000000 in
theorem mk_Spoil (B b : Nat) (s : ByteArray) (w : World) (h : Tape B w b) (hs : s.size ≤ 1000000) :
    Calls Tryz.prog 10 #[.pointer (some ⟨b, 0, none⟩), .string s] w (SpoilPost B b s w) := by
  go_enter Tryz.func10, Tryz.ntmps10
  by_cases h0 : s.size = 0
  · obtain rfl := empty_of s h0
    clear h0
    go_wp2_with fail
    refine (mk_Odd B b _ h).mono ?_
    rintro e w2 ⟨o, rfl, ho, hT2, hK2⟩
    have hos := lOdd_size o ho
    go_wp2_with fail
    go_ret
    exact ⟨o, rfl, by omega, hT2, hK2⟩
  · have h0 : 0 < s.size := by omega
    have hne := toList_ne s h0
    have hne2 := toList_isEmpty s h0
    have hz : ((s.size : Int) == 0) = false := by rw [beq_eq_false_iff_ne]; omega
    go_wp2_with fail
    refine (mk_N B b (s.size : Int) _ h (by omega) (by omega)).mono ?_
    rintro e w1 ⟨k, rfl, k0, k1, hT1, hK1⟩
    obtain ⟨k, rfl⟩ := Int.eq_ofNat_of_zero_le k0
    have hk : k < s.size := by omega
    clear k0 k1
    go_wp2_with fail
    refine (mk_N B b 5 _ hT1 (by omega) (by omega)).mono ?_
    rintro e w2 ⟨q, rfl, q0, q1, hT2, hK2⟩
    have hK3 : Keeps (· = b) w w2 := hK1.trans hK2 (fun _ _ h => h)
    have x1 := ex_size s 0 k (by omega)
    have x2 := ex_size s (k + 1) s.size (by omega)
    have x3 := ex_size s k s.size (by omega)
    have x4 := ex_size s k (k + 1) (by omega)
    have hqc : q = 0 ∨ q = 1 ∨ q = 2 ∨ q = 3 ∨ q = 4 := by omega
    rcases hqc with rfl | rfl | rfl | rfl | rfl
    · obtain ⟨c, hc, hcs, _⟩ := adds_ex (s.extract 0 k) (s.extract (k + 1) s.size) (by omega)
      unfold Adds at hc
      clear x1 x2 x3 x4
      go_wp2_with fail
      go_quiet (fail)
      go_wp2_with fail
      go_ret
      exact ⟨c, rfl, by rw [hcs]; simp; omega, hT2.keeps ((Keeps.refl (fun _ => False) w2).drewN _) (fun _ e => e.elim), hK3.drewN _⟩
    · obtain ⟨c, hc, hcs, _⟩ := adds_ex (s.extract 0 k) (s.extract k (k + 1)) (by omega)
      obtain ⟨d, hd, hds, _⟩ := adds_ex c (s.extract k s.size) (by omega)
      unfold Adds at hc hd
      clear x1 x2 x3 x4
      go_wp2_with fail
      go_quiet (fail)
      go_wp2_with fail
      go_ret
      exact ⟨d, rfl, by rw [hds, hcs]; simp; omega, hT2.keeps ((Keeps.refl (fun _ => False) w2).drewN _) (fun _ e => e.elim), hK3.drewN _⟩
    · have hadd : ∀ o : ByteArray, o.size ≤ 20 → ∃ c d, Adds (s.extract 0 k) o c ∧ Adds c (s.extract (k + 1) s.size) d ∧ d.size ≤ s.size + 64 := by
        intro o ho
        obtain ⟨c, hc, hcs, _⟩ := adds_ex (s.extract 0 k) o (by omega)
        obtain ⟨d, hd, hds, _⟩ := adds_ex c (s.extract (k + 1) s.size) (by omega)
        exact ⟨c, d, hc, hd, by omega⟩
      have n1 : (1 : Int) ≤ 256 := by omega
      have n2 : (256 : Int) ≤ 4611686018427387904 := by omega
      have hw2 : (0 : Int) ≤ (k : Int) + 1 := by omega
      have hw4 : k + 1 ≤ s.size := hk
      have hw1 : IntKind.i64.wrap ((k : Int) + 1) = (k : Int) + 1 := IntWalk.i64_in _ (by omega)
      have hw3 : ((k : Int) + 1).toNat = k + 1 := by omega
      clear x1 x2 x3 x4
      go_wp2_with fail
      go_region_with (go_at_call 16; refine (mk_N B b 256 _ (by exact hT2) n1 n2).mono ?_; rintro e w3 ⟨v, rfl, v0, v1, hT4, hK4⟩; have hwr : IntKind.u8.wrap v = v := wrap8 v v0 v1; have hcv := conv_one w3 v v0 v1; obtain ⟨c, d, hc, hd, hds⟩ := hadd ⟨#[v.toNat.toUInt8]⟩ (Nat.le_of_ble_eq_true rfl); unfold Adds at hc hd)
      all_goals
        clear hw1 hw3
        go_wp2_with fail
        go_ret
        exact ⟨d, rfl, hds, hT4.keeps ((Keeps.refl (fun _ => False) w3).alloc _) (fun _ e => e.elim), (hK3.drew.trans hK4 (fun _ _ h => h)).alloc _⟩
    · go_wp2_with fail
      go_region_with (go_at_call 36; refine (mk_Odd B b _ (by exact hT2)).mono ?_; rintro e w3 ⟨o, rfl, ho, hT4, hK4⟩; have hos := lOdd_size o ho; obtain ⟨c, hc, hcs, _⟩ := adds_ex (s.extract 0 k) o (by omega); obtain ⟨d, hd, hds, _⟩ := adds_ex c (s.extract k s.size) (by omega); unfold Adds at hc hd)
      all_goals
        go_wp2_with fail
        go_ret
        exact ⟨d, rfl, by rw [hds, hcs]; simp; omega, hT4, hK3.drew.trans hK4 (fun _ _ h => h)⟩
    · go_wp2_with fail
      go_region_with (go_at_call 37; refine (mk_Piece B b _ (by exact hT2)).mono ?_; rintro e w3 ⟨o, rfl, ho, hT4, hK4⟩; have hos := lPiece_size o ho; obtain ⟨c, hc, hcs, _⟩ := adds_ex (s.extract 0 k) o (by omega); obtain ⟨d, hd, hds, _⟩ := adds_ex c (s.extract k s.size) (by omega); unfold Adds at hc hd)
      all_goals
        go_wp2_with fail
        go_ret
        exact ⟨d, rfl, by rw [hds, hcs]; simp; omega, hT4, hK3.drew.trans hK4 (fun _ _ h => h)⟩
end Go.Proofs.YtiojnbhomjkkgaaGreatDoor

namespace Go.Proofs.YtiojnbhomjkkgaaGreatDoor
open Go.RowKit

def lSign : List ByteArray := [⟨#[48]⟩, ⟨#[49]⟩, ⟨#[50]⟩, ⟨#[55]⟩, ⟨#[48, 120, 102, 102]⟩, ⟨#[51]⟩, ⟨#[40]⟩, ⟨#[41]⟩, ⟨#[45]⟩, ⟨#[126]⟩, ⟨#[33]⟩, ⟨#[43]⟩, ⟨#[42]⟩, ⟨#[47]⟩, ⟨#[37]⟩, ⟨#[60, 60]⟩, ⟨#[62, 62]⟩, ⟨#[60]⟩, ⟨#[62]⟩, ⟨#[60, 61]⟩, ⟨#[62, 61]⟩, ⟨#[61, 61]⟩, ⟨#[33, 61]⟩, ⟨#[38]⟩, ⟨#[124]⟩, ⟨#[94]⟩, ⟨#[38, 38]⟩, ⟨#[124, 124]⟩, ⟨#[63]⟩, ⟨#[58]⟩]
theorem lSign_size : ∀ s ∈ lSign, s.size ≤ 20 := by decide
def SgnRel (B b n g0 : Nat) (w : World) (f : Nat) (x y : Value) (wr : World) : Prop :=
  ∃ (s : ByteArray) (r : Nat), x = .string s ∧ y = .int .i64 r ∧ r ≤ f ∧ s.size + 64 * r ≤ 64 * n ∧ Tape B wr b ∧ Keeps (· = b) w wr ∧ Holds wr g0 (lSign.map Value.string).toArray 9

set_option maxHeartbeats 4000000 in
set_option maxRecDepth 100000 in
theorem law02_signs (B b n : Nat) (w : World) (h : Tape B w b) (hn : n ≤ 1000) :
    Calls Tryz.prog 11 #[.pointer (some ⟨b, 0, none⟩), .int .i64 n] w fun e w' => ∃ s : ByteArray, e = .returned (.string s) ∧ s.size ≤ 64 * n ∧ Tape B w' b ∧ Keeps (· = b) w w' := by
  have hlt := h.lt
  go_enter Tryz.func11, Tryz.ntmps11
  go_wp2_with fail
  refine (mk_N B b ((n : Int) + 1) _ (h.keeps ((Keeps.refl (fun _ => False) w).alloc _) (fun _ e => e.elim)) (by omega) (by omega)).mono ?_
  rintro e w1 ⟨r, rfl, r0, r1, hT, hK⟩
  obtain ⟨r, rfl⟩ := Int.eq_ofNat_of_zero_le r0
  have hr : r ≤ n := by omega
  have hH := (Holds.new w (lSign.map Value.string).toArray 9).keeps hK (by omega)
  have hK2 : Keeps (fun i => i = b) w w1 := ((Keeps.refl (fun i => i = b) w).alloc _).trans hK (fun _ _ e => e)
  obtain ⟨g0, hg0⟩ : ∃ g0, w.heap.size = g0 := ⟨_, rfl⟩
  rw [hg0] at hH
  clear hK
  have hgb : g0 ≠ b := by omega
  clear h
  go_wp2_with fail
  go_loopg [6, 7] r (fun f x y wr => SgnRel B b n g0 w f x y wr)
  case atStart => exact ⟨ByteArray.empty, r, rfl, rfl, by omega, by simp; omega, hT, hK2, hH⟩
  case round =>
    obtain ⟨s, r, rfl, rfl, hf, hs, hT, hK, hH⟩ := hrel
    by_cases h0 : 0 < r
    · go_wp2_with fail
      refine (mk_N B b 30 _ hT (by omega) (by omega)).mono ?_
      rintro e w2 ⟨k, rfl, k0, k1, hT1, hK1⟩
      obtain ⟨k, rfl⟩ := Int.eq_ofNat_of_zero_le k0
      go_wp2_with fail
      refine (mk_N B b 5 _ hT1 (by omega) (by omega)).mono ?_
      rintro e w3 ⟨z, rfl, z0, z1, hT2, hK2⟩
      have hK12 := hK1.trans hK2 (fun _ _ h => h)
      by_cases hz : 0 < z
      · go_wp2_with fail
        refine (mk_N B b 6 _ hT2 (by omega) (by omega)).mono ?_
        rintro e w4 ⟨q, rfl, q0, q1, hT3, hK3⟩
        obtain ⟨q, rfl⟩ := Int.eq_ofNat_of_zero_le q0
        have hK13 := hK12.trans hK3 (fun _ _ h => h)
        by_cases hev : (r : Int) % 2 = 0
        · have hev' : (((r : Int) % 2) == 0) = true := by simpa using hev
          go_wp2_with fail
          refine (mk_N B b 17 _ hT3 (by omega) (by omega)).mono ?_
          rintro e w5 ⟨p, rfl, p0, p1, hT4, hK4⟩
          obtain ⟨p, rfl⟩ := Int.eq_ofNat_of_zero_le p0
          have hK14 := hK13.trans hK4 (fun _ _ h => h)
          have ht := hH.keeps (hK14) (by omega)
          obtain ⟨t, ht1, ht2⟩ := pick_one lSign (11 + p) (by have : lSign.length = 30 := rfl; omega)
          have hts := lSign_size t ht2
          have hc : w5.cell? ⟨g0, 11 + p, none⟩ = some (.string t) := (ht.cell (11 + p)).trans (by simp [ht1])
          obtain ⟨s1, ha1, hs1, _⟩ := adds_ex t ⟨#[32]⟩ (by have : (⟨#[32]⟩ : ByteArray).size = 1 := rfl; omega)
          have hs1' : s1.size = t.size + 1 := hs1
          obtain ⟨s2, ha2, hs2, _⟩ := adds_ex s s1 (by omega)
          unfold Adds at ha1 ha2
          clear ht ht1 ht2
          go_wp2_with fail
          go_roundg (gk - 1)
          case measure => omega
          case rel => exact ⟨s2, r - 1, rfl, by go_num, by omega, by omega, hT4, hK.trans (hK14) (fun _ _ h => h), hH.keeps (hK14) (by omega)⟩
        · have hev' : (((r : Int) % 2) == 0) = false := by simpa using hev
          have ht := hH.keeps (hK13) (by omega)
          obtain ⟨t, ht1, ht2⟩ := pick_one lSign (q) (by have : lSign.length = 30 := rfl; omega)
          have hts := lSign_size t ht2
          have hc : w4.cell? ⟨g0, q, none⟩ = some (.string t) := (ht.cell (q)).trans (by simp [ht1])
          obtain ⟨s1, ha1, hs1, _⟩ := adds_ex t ⟨#[32]⟩ (by have : (⟨#[32]⟩ : ByteArray).size = 1 := rfl; omega)
          have hs1' : s1.size = t.size + 1 := hs1
          obtain ⟨s2, ha2, hs2, _⟩ := adds_ex s s1 (by omega)
          unfold Adds at ha1 ha2
          clear ht ht1 ht2
          go_wp2_with fail
          go_roundg (gk - 1)
          case measure => omega
          case rel => exact ⟨s2, r - 1, rfl, by go_num, by omega, by omega, hT3, hK.trans (hK13) (fun _ _ h => h), hH.keeps (hK13) (by omega)⟩
      · have hz' : ¬ 0 < z := hz
        have ht := hH.keeps (hK12) (by omega)
        obtain ⟨t, ht1, ht2⟩ := pick_one lSign (k) (by have : lSign.length = 30 := rfl; omega)
        have hts := lSign_size t ht2
        have hc : w3.cell? ⟨g0, k, none⟩ = some (.string t) := (ht.cell (k)).trans (by simp [ht1])
        obtain ⟨s1, ha1, hs1, _⟩ := adds_ex t ⟨#[32]⟩ (by have : (⟨#[32]⟩ : ByteArray).size = 1 := rfl; omega)
        have hs1' : s1.size = t.size + 1 := hs1
        obtain ⟨s2, ha2, hs2, _⟩ := adds_ex s s1 (by omega)
        unfold Adds at ha1 ha2
        clear ht ht1 ht2
        go_wp2_with fail
        go_roundg (gk - 1)
        case measure => omega
        case rel => exact ⟨s2, r - 1, rfl, by go_num, by omega, by omega, hT2, hK.trans (hK12) (fun _ _ h => h), hH.keeps (hK12) (by omega)⟩
    · go_wp2_with fail
      go_ret
      exact ⟨s, rfl, by omega, hT, hK⟩
end Go.Proofs.YtiojnbhomjkkgaaGreatDoor
