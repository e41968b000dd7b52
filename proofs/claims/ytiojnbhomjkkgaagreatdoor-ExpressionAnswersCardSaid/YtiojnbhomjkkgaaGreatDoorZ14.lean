/- The tape of bringupmake: a list of numbers, read one by one; what it holds does not matter. | The tape: Range and Pick. | The tape: Number. -/
import Derived.Test.YtiojnbhomjkkgaaGreatDoorZ1
import Derived.WalkLawsBesides
import Derived.Deep.QuietTactic
import Derived.BigQuiet

set_option linter.unusedVariables false
set_option linter.unusedSimpArgs false
set_option linter.unusedSectionVars false

namespace Go.Proofs.YtiojnbhomjkkgaaGreatDoor
open Go.RowKit

/-- A 64-bit number. -/
def I64 (n : Int) : Prop := -9223372036854775808 ≤ n ∧ n ≤ 9223372036854775807
/-- Block b is a tape over memory below B. -/
def Tape (B : Nat) (w : World) (b : Nat) : Prop :=
  B ≤ b ∧ ∃ (a : Option Addr) (len cap at_ : Nat), Holds w b #[.slice a len cap, .int .i64 at_] 74 ∧ at_ ≤ len ∧ len ≤ 500 ∧
    (0 < len → ∃ g o, a = some ⟨g, o, none⟩ ∧ g < B ∧ ∀ i, i < len → ∃ n, w.cell? ⟨g, o + i, none⟩ = some (.int .i64 n) ∧ I64 n)
theorem Tape.keeps {B b : Nat} {w w' : World} {S : Nat → Prop} (h : Tape B w b) (k : Keeps S w w') (hs : ∀ i, S i → B ≤ i ∧ i ≠ b) : Tape B w' b := by
  obtain ⟨hB, a, len, cap, at_, hH, h1, h2, h3⟩ := h
  refine ⟨hB, a, len, cap, at_, hH.keeps k (fun e => (hs b e).2 rfl), h1, h2, ?_⟩
  intro hl
  obtain ⟨g, o, rfl, hg, hc⟩ := h3 hl
  refine ⟨g, o, rfl, hg, fun i hi => ?_⟩
  obtain ⟨n, hn, hb⟩ := hc i hi
  exact ⟨n, (k.cell (p := ⟨g, o + i, none⟩) (World.block_lt_of_cell? w _ hn) (fun e => by have := (hs g e).1; omega)).trans hn, hb⟩
theorem Tape.lt {B b : Nat} {w : World} (h : Tape B w b) : b < w.heap.size := by
  obtain ⟨_, _, _, _, _, hH, _⟩ := h; exact hH.lt

set_option maxHeartbeats 1000000 in
theorem mk_Raw (B b : Nat) (w : World) (h : Tape B w b) :
    Calls Tryz.prog 43 #[.pointer (some ⟨b, 0, none⟩)] w fun e w' => ∃ n, e = .returned (.int .i64 n) ∧ I64 n ∧ Tape B w' b ∧ Keeps (· = b) w w' := by
  have hT := h
  obtain ⟨hB, a, len, cap, at_, hH, h1, h2, h3⟩ := h
  have c0 : w.cell? ⟨b, 0, none⟩ = some (.slice a len cap) := hH.cell 0
  have c1 : w.cell? ⟨b, 1, none⟩ = some (.int .i64 at_) := hH.cell 1
  have f1 := hH.free 1
  by_cases hlt : at_ < len
  · obtain ⟨g, o, rfl, hg, hc⟩ := h3 (by omega)
    obtain ⟨n, hn, hb⟩ := hc at_ hlt
    have HC := Lib.hid hc; clear hc h3
    go_enter Tryz.func43, Tryz.ntmps43
    go_wp2
    go_quiet (fail)
    go_wp2
    go_quiet (fail)
    go_wp2
    go_ret
    refine ⟨n, rfl, hb, ?_, ((Keeps.refl (fun i => i = b) w).drewN _ |>.setCell (.inr rfl) _).drewN _⟩
    refine ⟨hB, some ⟨g, o, none⟩, len, cap, at_ + 1, ((hH.drewN _).set 1 _).drewN _, hlt, h2, fun _ => ⟨g, o, rfl, hg, fun i hi => ?_⟩⟩
    obtain ⟨m, hm, hm2⟩ := HC.out i hi
    exact ⟨m, (World.cell?_setCell_other _ _ _ _ (by intro e; have := congrArg Addr.block e; simp at this; omega)).trans hm, hm2⟩
  · have hge : len ≤ at_ := by omega
    go_enter Tryz.func43, Tryz.ntmps43
    go_wp2
    go_quiet (fail)
    go_wp2
    go_ret
    exact ⟨0, rfl, ⟨by decide, by decide⟩, hT.keeps ((Keeps.refl (fun _ => False) w).drewN _) (fun _ e => e.elim), (Keeps.refl _ w).drewN _⟩

set_option maxHeartbeats 1000000 in
theorem mk_Mod (x n : Int) (w : World) (hx : I64 x) (hn : 1 ≤ n) (hn2 : n ≤ 4611686018427387904) :
    Calls Tryz.prog 42 #[.int .i64 x, .int .i64 n] w fun e w' => ∃ r, e = .returned (.int .i64 r) ∧ 0 ≤ r ∧ r < n ∧ w = w' := by
  obtain ⟨x0, x1⟩ := hx
  have hm0 : -n < x.tmod n := by have := Int.tmod_lt_of_pos (-x) (show 0 < n by omega); rw [Int.neg_tmod] at this; omega
  have hm1 : x.tmod n < n := Int.tmod_lt_of_pos x (by omega)
  by_cases hneg : x.tmod n < 0
  · go_enter Tryz.func42, Tryz.ntmps42
    go_wp2
    go_ret
    exact ⟨_, rfl, by omega, by omega, rfl⟩
  · go_enter Tryz.func42, Tryz.ntmps42
    go_wp2
    go_ret
    exact ⟨_, rfl, by omega, by omega, rfl⟩

set_option maxHeartbeats 1000000 in
theorem mk_N (B b : Nat) (n : Int) (w : World) (h : Tape B w b) (hn : 1 ≤ n) (hn2 : n ≤ 4611686018427387904) :
    Calls Tryz.prog 16 #[.pointer (some ⟨b, 0, none⟩), .int .i64 n] w fun e w' => ∃ r, e = .returned (.int .i64 r) ∧ 0 ≤ r ∧ r < n ∧ Tape B w' b ∧ Keeps (· = b) w w' := by
  go_enter Tryz.func16, Tryz.ntmps16
  go_wp2_with fail
  refine (mk_Raw B b _ h).mono ?_
  rintro e w1 ⟨x, rfl, hx, hT, hK⟩
  go_wp2_with fail
  refine (mk_Mod x n _ hx hn hn2).mono ?_
  rintro e w2 ⟨r, rfl, r0, r1, rfl⟩
  go_wp2_with fail
  go_ret
  exact ⟨r, rfl, r0, r1, hT, hK⟩

theorem pick_one (l : List ByteArray) (r : Nat) (h : r < l.length) : ∃ s, l[r]? = some s ∧ s ∈ l := ⟨l[r], by simp [h], List.getElem_mem h⟩
/-- A list of numbers that came in: nil, or a row below B. -/
def IntsIn (w : World) (a : Option Addr) (len : Nat) : Prop :=
  0 < len → ∃ g o, a = some ⟨g, o, none⟩ ∧ ∀ i, i < len → ∃ n, w.cell? ⟨g, o + i, none⟩ = some (.int .i64 n) ∧ I64 n

set_option maxHeartbeats 1000000 in
theorem mk_New (a : Option Addr) (len cap : Nat) (w : World) (hi : IntsIn w a len) (hlc : len ≤ cap) (hcap : cap ≤ maxLen) (hnil : a = none → len = 0 ∧ cap = 0) :
    Calls Tryz.prog 8 #[.slice a len cap] w fun e w' => ∃ b, e = .returned (.pointer (some ⟨b, 0, none⟩)) ∧ Tape w.heap.size w' b ∧ Below w.heap.size w w' := by
  unfold maxLen at hcap
  go_enter Tryz.func8, Tryz.ntmps8
  by_cases h5 : len ≤ 500
  · go_wp2
    go_ret
    refine ⟨w.heap.size, rfl, ⟨Nat.le_refl _, a, len, cap, 0, Holds.new w _ _, by omega, h5, fun hl => ?_⟩, (Below.refl _ _).alloc (Nat.le_refl _) _⟩
    obtain ⟨g, o, rfl, hc⟩ := hi hl
    obtain ⟨n0, hn0, _⟩ := hc 0 hl
    have hg : g < w.heap.size := World.block_lt_of_cell? w _ hn0
    refine ⟨g, o, rfl, hg, fun i hi => ?_⟩
    obtain ⟨n, hn, hb⟩ := hc i hi
    exact ⟨n, (((Keeps.refl (fun _ => False) w).alloc _).cell (p := ⟨g, o + i, none⟩) hg (fun e => e)).trans hn, hb⟩
  · have h5' : 500 < len := by omega
    go_wp2
    go_ret
    refine ⟨w.heap.size, rfl, ⟨Nat.le_refl _, a, 500, cap, 0, Holds.new w _ _, by omega, by omega, fun hl => ?_⟩, (Below.refl _ _).alloc (Nat.le_refl _) _⟩
    obtain ⟨g, o, rfl, hc⟩ := hi (by omega)
    obtain ⟨n0, hn0, _⟩ := hc 0 (by omega)
    have hg : g < w.heap.size := World.block_lt_of_cell? w _ hn0
    refine ⟨g, o, rfl, hg, fun i hi => ?_⟩
    obtain ⟨n, hn, hb⟩ := hc i (by omega)
    exact ⟨n, (((Keeps.refl (fun _ => False) w).alloc _).cell (p := ⟨g, o + i, none⟩) hg (fun e => e)).trans hn, hb⟩

/-- A row of 64-bit numbers that came in, as the frames tell of it. -/
theorem row_parts {w : World} {a : Option Addr} {len cap : Nat} {zs : List Int}
    (h : (a = none ∧ len = 0 ∧ cap = 0 ∧ zs = []) ∨ ∃ x, a = some x ∧ len ≤ cap ∧ cap ≤ maxLen ∧ zs.length = cap ∧ (∀ i, i < zs.length → w.cell? (x.add i) = some (.int .i64 (zs.getD i 0))) ∧ ∀ n ∈ zs, (Lit.int .i64 n).wf = true) :
    IntsIn w a len ∧ len ≤ cap ∧ cap ≤ maxLen ∧ (a = none → len = 0 ∧ cap = 0) := by
  rcases h with ⟨rfl, rfl, rfl, rfl⟩ | ⟨x, rfl, hl, hm, hz, hc, hw⟩
  · exact ⟨fun h => absurd h (by omega), by omega, by unfold maxLen; omega, fun _ => ⟨rfl, rfl⟩⟩
  · refine ⟨fun h0 => ?_, hl, hm, fun e => by cases e⟩
    obtain ⟨g, o, sp⟩ := x
    have hsp : sp = none := by simpa [Addr.add] using World.cell?_spot (hc 0 (by omega))
    subst hsp
    refine ⟨g, o, rfl, fun i hi => ?_⟩
    have := hc i (by omega)
    have hadd : (⟨g, o, none⟩ : Addr).add i = ⟨g, o + i, none⟩ := by unfold Addr.add; split <;> simp_all
    rw [hadd] at this
    refine ⟨_, this, ?_⟩
    have hmem : zs.getD i 0 ∈ zs := by
      have hi' : i < zs.length := by omega
      rw [List.getD_eq_getElem?_getD, List.getElem?_eq_getElem hi']; exact List.getElem_mem hi'
    have := hw _ hmem
    simp [Lit.wf, IntKind.min, IntKind.max, IntKind.signed, IntKind.bits] at this
    exact this

def lPiece : List ByteArray := [⟨#[97]⟩, ⟨#[110, 111, 100, 101, 64, 49]⟩, ⟨#[35, 99, 101, 108, 108, 115]⟩, ⟨#[99, 111, 109, 112, 97, 116, 105, 98, 108, 101]⟩, ⟨#[120, 58]⟩, ⟨#[108, 97, 98, 95, 49, 58]⟩, ⟨#[38, 97]⟩, ⟨#[38, 108, 97, 98, 95, 49]⟩, ⟨#[48]⟩, ⟨#[55]⟩, ⟨#[48, 49, 48]⟩, ⟨#[48, 120, 49, 102]⟩, ⟨#[48, 120, 70, 70, 70, 70, 70, 70, 70, 70]⟩, ⟨#[52, 50, 57, 52, 57, 54, 55, 50, 57, 53]⟩, ⟨#[34, 116, 101, 120, 116, 34]⟩, ⟨#[34, 97, 92, 110, 92, 120, 52, 49, 92, 34, 34]⟩, ⟨#[47, 105, 110, 99, 108, 117, 100, 101, 47]⟩, ⟨#[47, 100, 101, 108, 101, 116, 101, 45, 110, 111, 100, 101, 47]⟩, ⟨#[47]⟩, ⟨#[123]⟩, ⟨#[125]⟩, ⟨#[40]⟩, ⟨#[41]⟩, ⟨#[60]⟩, ⟨#[62]⟩, ⟨#[91]⟩, ⟨#[93]⟩, ⟨#[59]⟩, ⟨#[61]⟩, ⟨#[44]⟩, ⟨#[43]⟩, ⟨#[45]⟩, ⟨#[42]⟩, ⟨#[37]⟩, ⟨#[60, 60]⟩, ⟨#[62, 62]⟩, ⟨#[60, 61]⟩, ⟨#[62, 61]⟩, ⟨#[61, 61]⟩, ⟨#[33, 61]⟩, ⟨#[38, 38]⟩, ⟨#[124, 124]⟩, ⟨#[94]⟩, ⟨#[126]⟩, ⟨#[33]⟩, ⟨#[63]⟩, ⟨#[58]⟩, ⟨#[124]⟩, ⟨#[38]⟩, ⟨#[32]⟩, ⟨#[10]⟩, ⟨#[9]⟩, ⟨#[47, 47, 32, 110, 111, 116, 101, 10]⟩, ⟨#[47, 42, 32, 97, 10, 42, 32, 98, 32, 42, 47]⟩, ⟨#[13, 10]⟩]
set_option maxHeartbeats 2000000 in
set_option maxRecDepth 100000 in
theorem mk_Piece (B b : Nat) (w : World) (h : Tape B w b) :
    Calls Tryz.prog 37 #[.pointer (some ⟨b, 0, none⟩)] w fun e w' => ∃ s, e = .returned (.string s) ∧ s ∈ lPiece ∧ Tape B w' b ∧ Keeps (· = b) w w' := by
  have hlt := h.lt
  go_enter Tryz.func37, Tryz.ntmps37
  go_wp2_with fail
  refine (mk_N B b 55 _ (h.keeps ((Keeps.refl (fun _ => False) w).alloc _) (fun _ e => e.elim)) (by omega) (by omega)).mono ?_
  rintro e w1 ⟨r, rfl, r0, r1, hT, hK⟩
  obtain ⟨r, rfl⟩ := Int.eq_ofNat_of_zero_le r0
  have hH := (Holds.new w (lPiece.map Value.string).toArray 9).keeps hK (by omega)
  obtain ⟨s, hs1, hs2⟩ := pick_one lPiece r (by have : lPiece.length = 55 := rfl; omega)
  have hc : w1.cell? ⟨w.heap.size, r, none⟩ = some (.string s) := (hH.cell r).trans (by simp [hs1])
  have hK2 : Keeps (fun i => i = b) w w1 := ((Keeps.refl (fun i => i = b) w).alloc _).trans hK (fun _ _ e => e)
  go_wp2_with fail
  go_ret
  exact ⟨s, rfl, hs2, hT, hK2⟩

def lOdd : List ByteArray := [⟨#[48, 57]⟩, ⟨#[48, 120]⟩, ⟨#[48, 120, 103]⟩, ⟨#[49, 50, 97, 98]⟩, ⟨#[52, 50, 57, 52, 57, 54, 55, 50, 57, 54]⟩, ⟨#[57, 57, 57, 57, 57, 57, 57, 57, 57, 57, 57, 57, 57, 57, 57, 57, 57, 57, 57, 57]⟩, ⟨#[34]⟩, ⟨#[34, 97, 98, 10, 34]⟩, ⟨#[34, 92, 113, 34]⟩, ⟨#[34, 92, 120, 52]⟩, ⟨#[34, 92]⟩, ⟨#[47, 42]⟩, ⟨#[47, 42, 32, 120]⟩, ⟨#[47, 42, 47]⟩, ⟨#[36]⟩, ⟨#[64]⟩, ⟨#[46]⟩, ⟨#[0]⟩, ⟨#[255]⟩, ⟨#[97, 45, 98, 58]⟩, ⟨#[35, 120, 58]⟩, ⟨#[47, 97]⟩, ⟨#[47, 45, 47]⟩, ⟨#[47, 47]⟩, ⟨#[56]⟩, ⟨#[48, 56]⟩, ⟨#[39]⟩]
set_option maxHeartbeats 2000000 in
set_option maxRecDepth 100000 in
theorem mk_Odd (B b : Nat) (w : World) (h : Tape B w b) :
    Calls Tryz.prog 36 #[.pointer (some ⟨b, 0, none⟩)] w fun e w' => ∃ s, e = .returned (.string s) ∧ s ∈ lOdd ∧ Tape B w' b ∧ Keeps (· = b) w w' := by
  have hlt := h.lt
  go_enter Tryz.func36, Tryz.ntmps36
  go_wp2_with fail
  refine (mk_N B b 27 _ (h.keeps ((Keeps.refl (fun _ => False) w).alloc _) (fun _ e => e.elim)) (by omega) (by omega)).mono ?_
  rintro e w1 ⟨r, rfl, r0, r1, hT, hK⟩
  obtain ⟨r, rfl⟩ := Int.eq_ofNat_of_zero_le r0
  have hH := (Holds.new w (lOdd.map Value.string).toArray 9).keeps hK (by omega)
  obtain ⟨s, hs1, hs2⟩ := pick_one lOdd r (by have : lOdd.length = 27 := rfl; omega)
  have hc : w1.cell? ⟨w.heap.size, r, none⟩ = some (.string s) := (hH.cell r).trans (by simp [hs1])
  have hK2 : Keeps (fun i => i = b) w w1 := ((Keeps.refl (fun i => i = b) w).alloc _).trans hK (fun _ _ e => e)
  go_wp2_with fail
  go_ret
  exact ⟨s, rfl, hs2, hT, hK2⟩

def lName : List ByteArray := [⟨#[97]⟩, ⟨#[98]⟩, ⟨#[99]⟩, ⟨#[99, 112, 117]⟩, ⟨#[99, 108, 107]⟩, ⟨#[98, 117, 115, 64, 49, 48]⟩, ⟨#[100, 101, 118, 64, 50]⟩, ⟨#[120, 95, 49]⟩, ⟨#[122]⟩]
set_option maxHeartbeats 2000000 in
set_option maxRecDepth 100000 in
theorem mk_Name (B b : Nat) (w : World) (h : Tape B w b) :
    Calls Tryz.prog 60 #[.pointer (some ⟨b, 0, none⟩)] w fun e w' => ∃ s, e = .returned (.string s) ∧ s ∈ lName ∧ Tape B w' b ∧ Keeps (· = b) w w' := by
  have hlt := h.lt
  go_enter Tryz.func60, Tryz.ntmps60
  go_wp2_with fail
  refine (mk_N B b 9 _ (h.keeps ((Keeps.refl (fun _ => False) w).alloc _) (fun _ e => e.elim)) (by omega) (by omega)).mono ?_
  rintro e w1 ⟨r, rfl, r0, r1, hT, hK⟩
  obtain ⟨r, rfl⟩ := Int.eq_ofNat_of_zero_le r0
  have hH := (Holds.new w (lName.map Value.string).toArray 9).keeps hK (by omega)
  obtain ⟨s, hs1, hs2⟩ := pick_one lName r (by have : lName.length = 9 := rfl; omega)
  have hc : w1.cell? ⟨w.heap.size, r, none⟩ = some (.string s) := (hH.cell r).trans (by simp [hs1])
  have hK2 : Keeps (fun i => i = b) w w1 := ((Keeps.refl (fun i => i = b) w).alloc _).trans hK (fun _ _ e => e)
  go_wp2_with fail
  go_ret
  exact ⟨s, rfl, hs2, hT, hK2⟩

def lProperty : List ByteArray := [⟨#[114, 101, 103]⟩, ⟨#[99, 111, 109, 112, 97, 116, 105, 98, 108, 101]⟩, ⟨#[115, 116, 97, 116, 117, 115]⟩, ⟨#[99, 108, 111, 99, 107, 115]⟩, ⟨#[35, 99, 101, 108, 108, 115]⟩, ⟨#[112]⟩, ⟨#[113]⟩, ⟨#[108, 97, 98, 101, 108]⟩, ⟨#[118, 97, 108, 117, 101]⟩]
set_option maxHeartbeats 2000000 in
set_option maxRecDepth 100000 in
theorem mk_Property (B b : Nat) (w : World) (h : Tape B w b) :
    Calls Tryz.prog 58 #[.pointer (some ⟨b, 0, none⟩)] w fun e w' => ∃ s, e = .returned (.string s) ∧ s ∈ lProperty ∧ Tape B w' b ∧ Keeps (· = b) w w' := by
  have hlt := h.lt
  go_enter Tryz.func58, Tryz.ntmps58
  go_wp2_with fail
  refine (mk_N B b 9 _ (h.keeps ((Keeps.refl (fun _ => False) w).alloc _) (fun _ e => e.elim)) (by omega) (by omega)).mono ?_
  rintro e w1 ⟨r, rfl, r0, r1, hT, hK⟩
  obtain ⟨r, rfl⟩ := Int.eq_ofNat_of_zero_le r0
  have hH := (Holds.new w (lProperty.map Value.string).toArray 9).keeps hK (by omega)
  obtain ⟨s, hs1, hs2⟩ := pick_one lProperty r (by have : lProperty.length = 9 := rfl; omega)
  have hc : w1.cell? ⟨w.heap.size, r, none⟩ = some (.string s) := (hH.cell r).trans (by simp [hs1])
  have hK2 : Keeps (fun i => i = b) w w1 := ((Keeps.refl (fun i => i = b) w).alloc _).trans hK (fun _ _ e => e)
  go_wp2_with fail
  go_ret
  exact ⟨s, rfl, hs2, hT, hK2⟩
end Go.Proofs.YtiojnbhomjkkgaaGreatDoor

namespace Go.Proofs.YtiojnbhomjkkgaaGreatDoor
open Go.RowKit

set_option maxHeartbeats 1000000 in
theorem mk_Range (B b : Nat) (lo hi : Int) (w : World) (h : Tape B w b) (h0 : -1000 ≤ lo) (h1 : lo ≤ hi) (h2 : hi ≤ 4611686018427387) :
    Calls Tryz.prog 52 #[.pointer (some ⟨b, 0, none⟩), .int .i64 lo, .int .i64 hi] w fun e w' => ∃ r, e = .returned (.int .i64 r) ∧ lo ≤ r ∧ r ≤ hi ∧ Tape B w' b ∧ Keeps (· = b) w w' := by
  go_enter Tryz.func52, Tryz.ntmps52
  go_wp2_with fail
  refine (mk_N B b (hi - lo + 1) _ h (by omega) (by omega)).mono ?_
  rintro e w1 ⟨r, rfl, r0, r1, hT, hK⟩
  go_wp2_with fail
  go_ret
  exact ⟨_, rfl, by omega, by omega, hT, hK⟩

set_option maxHeartbeats 1000000 in
theorem mk_Pick (B b g o cap : Nat) (l : List Int) (w : World) (h : Tape B w b) (h0 : 0 < l.length) (h1 : l.length ≤ 1000) (hne : g ≠ b) (hc : ∀ (i : Nat) (h : i < l.length), w.cell? ⟨g, o + i, none⟩ = some (.int .i64 l[i])) :
    Calls Tryz.prog 51 #[.pointer (some ⟨b, 0, none⟩), .slice (some ⟨g, o, none⟩) l.length cap] w fun e w' => ∃ r, e = .returned (.int .i64 r) ∧ r ∈ l ∧ Tape B w' b ∧ Keeps (· = b) w w' := by
  have HC := Lib.hid hc; clear hc
  go_enter Tryz.func51, Tryz.ntmps51
  go_wp2_with fail
  refine (mk_N B b l.length _ h (by omega) (by omega)).mono ?_
  rintro e w1 ⟨r, rfl, r0, r1, hT, hK⟩
  obtain ⟨k, rfl⟩ := Int.eq_ofNat_of_zero_le r0
  have hk : k < l.length := by omega
  have hcell : w1.cell? ⟨g, o + k, none⟩ = some (.int .i64 l[k]) := (hK.cell (p := ⟨g, o + k, none⟩) (World.block_lt_of_cell? w _ (HC.out k hk)) hne).trans (HC.out k hk)
  go_wp2_with fail
  go_ret
  exact ⟨_, rfl, List.getElem_mem hk, hT, hK⟩
end Go.Proofs.YtiojnbhomjkkgaaGreatDoor

namespace Go.Proofs.YtiojnbhomjkkgaaGreatDoor
open Go.RowKit

theorem row_ints_at (l : List Int) (i : Nat) (h : i < l.length) : ((l.map (Value.int .i64)).toArray)[i]? = some (.int .i64 l[i]) := by simp [h]

set_option maxHeartbeats 1000000 in
theorem mk_Number (B b : Nat) (w : World) (h : Tape B w b) :
    Calls Tryz.prog 21 #[.pointer (some ⟨b, 0, none⟩)] w fun e w' => ∃ r, e = .returned (.int .i64 r) ∧ 0 ≤ r ∧ r ≤ 4294967295 ∧ Tape B w' b ∧ Keeps (· = b) w w' := by
  go_enter Tryz.func21, Tryz.ntmps21
  go_wp2_with fail
  refine (mk_Range B b 0 300 _ h (by omega) (by omega) (by omega)).mono ?_
  rintro e w1 ⟨r1, rfl, ha, hb, hT1, hK1⟩
  go_wp2_with fail
  refine (mk_Range B b 0 4294967295 _ hT1 (by omega) (by omega) (by omega)).mono ?_
  rintro e w2 ⟨r2, rfl, hc, hd, hT2, hK2⟩
  have hlt := hT2.lt
  have hb3 : Below w2.heap.size w2 (w2.alloc (.cells #[.int .i64 0, .int .i64 1, .int .i64 2, .int .i64 3, .int .i64 5, .int .i64 31, .int .i64 32, .int .i64 r1, .int .i64 4294967295, .int .i64 2147483648, .int .i64 r2] 3)) := (Below.refl _ _).alloc (Nat.le_refl _) _
  have hT3 := hT2.keeps (Keeps.of_fresh hb3 (fun _ => False)) (fun _ e => e.elim)
  have hH := Holds.new w2 (([0, 1, 2, 3, 5, 31, 32, r1, 4294967295, 2147483648, r2] : List Int).map (Value.int .i64)).toArray 3
  have hc' : ∀ (i : Nat) (h : i < ([0, 1, 2, 3, 5, 31, 32, r1, 4294967295, 2147483648, r2] : List Int).length), (w2.alloc (.cells #[.int .i64 0, .int .i64 1, .int .i64 2, .int .i64 3, .int .i64 5, .int .i64 31, .int .i64 32, .int .i64 r1, .int .i64 4294967295, .int .i64 2147483648, .int .i64 r2] 3)).cell? ⟨w2.heap.size, 0 + i, none⟩ = some (.int .i64 ([0, 1, 2, 3, 5, 31, 32, r1, 4294967295, 2147483648, r2] : List Int)[i]) := by
    intro i hi
    rw [Nat.zero_add]
    exact (hH.cell i).trans (row_ints_at _ i hi)
  have hp := Lib.hid (mk_Pick B b w2.heap.size 0 11 [0, 1, 2, 3, 5, 31, 32, r1, 4294967295, 2147483648, r2] _ hT3 (by simp) (by simp) (by omega) hc')
  have hKK := hK1.trans hK2 (fun _ _ e => e)
  clear hT1 hT2 hT3 hH hc' h hK1 hK2
  go_wp2_with fail
  refine (hp.out).mono ?_
  rintro e w4 ⟨r, rfl, hr, hT4, hK4⟩
  go_wp2_with fail
  go_ret
  have hr2 : 0 ≤ r ∧ r ≤ 4294967295 := by simp at hr; omega
  exact ⟨r, rfl, hr2.1, hr2.2, hT4, (hKK.trans (Keeps.of_fresh hb3 (fun i => i = b)) (fun _ _ e => e)).trans hK4 (fun _ _ e => e)⟩
end Go.Proofs.YtiojnbhomjkkgaaGreatDoor
