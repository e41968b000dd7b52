/- The law TokenNumbers: its walk. -/
import Derived.Test.YtdigoicdgeebhaaNumP
namespace Go.Proofs.Ytdigoicdgeebhaa
open Go.RowKit

theorem str_app (x : List UInt8) (y : List UInt8) : (⟨x.toArray⟩ : ByteArray) ++ ⟨y.toArray⟩ = ⟨(x ++ y).toArray⟩ := ByteArray.mk_append_mk x y
theorem four {w : World} {b : Nat} {x0 x1 x2 x3 : Value} {t : TypeId} (h : Holds w b #[x0, x1, x2, x3] t) :
    w.cell? ⟨b, 0, none⟩ = some x0 ∧ w.cell? ⟨b, 1, none⟩ = some x1 ∧ w.cell? ⟨b, 2, none⟩ = some x2 ∧ w.cell? ⟨b, 3, none⟩ = some x3 :=
  ⟨h.cell 0, h.cell 1, h.cell 2, h.cell 3⟩

/-- A text that reads as just the number n. -/
def ReadsAs (s : ByteArray) (n : Int) : Prop := s.size ≤ 100 ∧ ∃ c1 c2, readT s.data.toList 0 = ([⟨2, [], n, 1, 1⟩, ⟨8, [], 0, c1, c2⟩], (0, 0, 0), 0)

/-- based gives this text. -/
def Based (n base : Int) (cap : Bool) (b : ByteArray) : Prop := ∀ w : World, Calls Try.prog 18 #[.int .i64 n, .int .i64 base, .bool cap] w fun e w' => e = .returned (.string b) ∧ ∃ k, w' = w.drewN k
theorem based_of (n : Nat) (base : Nat) (cap : Bool) (h1 : n ≤ 1099511627776) (hb0 : 2 ≤ base) (hb1 : base ≤ 16) : Based n base cap ⟨(basedT base cap n).toArray⟩ := by
  intro w
  exact based_any n base cap w (by omega) (by omega) (by omega) (by omega)
/-- Two strings put together give this one. -/
def Adds (a b c : ByteArray) : Prop := ∀ wx : World, (Op.stringOp .add a b).run Try.prog wx = .ok (.string c) wx
theorem adds_of (x y : List UInt8) (h : x.length + y.length ≤ 9223372036854775807) : Adds ⟨x.toArray⟩ ⟨y.toArray⟩ ⟨(x ++ y).toArray⟩ := by
  intro wx
  rw [run_string_add_sum wx _ _ (by simpa [ByteArray.size] using h), str_app]
theorem basedT_len41 (base : Nat) (cap : Bool) (hb : 2 ≤ base) (n : Nat) (h : n ≤ 1099511627776) : (basedT base cap n).length ≤ 42 := basedT_len base cap hb 41 n (by omega)

theorem four_texts (n : Nat) (hn : n ≤ 4294967295) : ∃ b10 b8 b16 b17 s1 s2 s3 : ByteArray, Based n 10 false b10 ∧ Based n 8 false b8 ∧ Based n 16 false b16 ∧ Based n 16 true b17 ∧
    Adds ⟨#[48]⟩ b8 s1 ∧ Adds ⟨#[48, 120]⟩ b16 s2 ∧ Adds ⟨#[48, 120]⟩ b17 s3 ∧ ReadsAs b10 n ∧ ReadsAs s1 n ∧ ReadsAs s2 n ∧ ReadsAs s3 n := by
  have l10 := basedT_len41 10 false (by omega) n (by omega)
  have l8 := basedT_len41 8 false (by omega) n (by omega)
  have l16 := basedT_len41 16 false (by omega) n (by omega)
  have l17 := basedT_len41 16 true (by omega) n (by omega)
  have hw : ∀ base cap, 2 ≤ base → base ≤ 16 → ∀ x ∈ basedT base cap n, wordB x.toNat = true := fun base cap h1 h2 => basedT_all base cap h1 h2 (fun x => wordB x.toNat = true) (fun d hd => digCh_word cap d (by omega)) n n (Nat.le_refl _)
  have hR : numR (some (min (n : Int) 4294967296)) = ((n : Int), 0) := by unfold numR; simp only []; rw [show min (n : Int) 4294967296 = n from by omega, if_neg (by omega)]
  have mk : ∀ l : List UInt8, l ≠ [] → l.length ≤ 100 → (∀ x ∈ l, wordB x.toNat = true) → digitB (l.headD 0).toNat = true → numT l = ((n : Int), 0) → ReadsAs ⟨l.toArray⟩ n := by
    intro l h1 h2 h3 h4 h5
    refine ⟨by simpa [ByteArray.size] using h2, (adv l (1, 1)).1, (adv l (1, 1)).2, ?_⟩
    rw [readT_number 0 _ (by simpa using h1) (by simp; omega) (by simpa using h3) (by simpa using h4)]
    rw [show (⟨l.toArray⟩ : ByteArray).data.toList = l from rfl, h5]
    simp
  refine ⟨_, _, _, _, _, _, _, based_of n 10 false (by omega) (by omega) (by omega), based_of n 8 false (by omega) (by omega) (by omega), based_of n 16 false (by omega) (by omega) (by omega), based_of n 16 true (by omega) (by omega) (by omega),
    adds_of [48] _ (by simp; omega), adds_of [48, 120] _ (by simp; omega), adds_of [48, 120] _ (by simp; omega), ?_, ?_, ?_, ?_⟩
  · refine mk _ (basedT_ne 10 false (by omega) n) (by omega) (hw 10 false (by omega) (by omega)) ?_ ((numT_dec n).trans hR)
    have := basedT_all 10 false (by omega) (by omega) (fun x => digitB x.toNat = true) (fun d hd => (digCh_dec d hd).1) n n (Nat.le_refl _)
    cases hb : basedT 10 false n with
    | nil => exact absurd hb (basedT_ne 10 false (by omega) n)
    | cons a l => rw [hb] at this; exact this a (by simp)
  · refine mk _ (by simp) (by simp; omega) ?_ (by simp; decide) ((numT_oct n).trans hR)
    intro x hx
    rcases List.mem_append.1 hx with hx | hx
    · simp at hx; subst hx; decide
    · exact hw 8 false (by omega) (by omega) x hx
  · refine mk _ (by simp) (by simp; omega) ?_ (by simp; decide) ((numT_hex n false).trans hR)
    intro x hx
    rcases List.mem_append.1 hx with hx | hx
    · simp at hx; rcases hx with rfl | rfl <;> decide
    · exact hw 16 false (by omega) (by omega) x hx
  · refine mk _ (by simp) (by simp; omega) ?_ (by simp; decide) ((numT_hex n true).trans hR)
    intro x hx
    rcases List.mem_append.1 hx with hx | hx
    · simp at hx; rcases hx with rfl | rfl <;> decide
    · exact hw 16 true (by omega) (by omega) x hx

/-- A number beyond the greatest one, behind a blank. -/
theorem beyond_text (d : Nat) (hd : d ≤ 255) : ∃ b s : ByteArray, Based (4294967296 + (d : Int)) 10 false b ∧ Adds ⟨#[32]⟩ b s ∧ s.size ≤ 100 ∧ readT s.data.toList 7 = ([], (7, 1, 2), 2) := by
  have l10 := basedT_len41 10 false (by omega) (4294967296 + d) (by omega)
  have hb := based_of (4294967296 + d) 10 false (by omega) (by omega) (by omega)
  have hne := basedT_ne 10 false (by omega) (4294967296 + d)
  have hw : ∀ x ∈ basedT 10 false (4294967296 + d), wordB x.toNat = true := basedT_all 10 false (by omega) (by omega) (fun x => wordB x.toNat = true) (fun d hd => digCh_word false d (by omega)) _ _ (Nat.le_refl _)
  have hdg := basedT_all 10 false (by omega) (by omega) (fun x => digitB x.toNat = true) (fun d hd => (digCh_dec d hd).1) _ _ (Nat.le_refl (4294967296 + d))
  have hT := numT_dec (4294967296 + d)
  have hR : numR (some (min ((4294967296 + d : Nat) : Int) 4294967296)) = (0, 2) := by unfold numR; simp only []; rw [show min ((4294967296 + d : Nat) : Int) 4294967296 = 4294967296 from by omega, if_pos (by omega)]
  refine ⟨_, _, hb, adds_of [32] _ (by simp; omega), by simp [ByteArray.size]; omega, ?_⟩
  generalize basedT 10 false (4294967296 + d) = l at l10 hne hw hdg hT
  show readT (32 :: l) 7 = _
  unfold readT
  rw [if_neg (by simp; omega), List.length_cons]
  have hd0 : digitB (l.headD 0).toNat = true := by
    cases l with
    | nil => exact absurd rfl hne
    | cons a l => exact hdg a (by simp)
  obtain ⟨q1, q2, q3⟩ := digit_no _ hd0
  have hbl : blk (l.length + 1) (32 :: l) = (1, false) := by
    have : blk l.length l = (0, false) := by
      cases l with
      | nil => exact absurd rfl hne
      | cons c r => exact blk_begin (by simpa using q1) (by simp at q2; omega)
    rw [blk_sep (by decide), this]
  have hl1 : 1 ≤ l.length := List.length_pos_iff.2 hne
  have hn : nextT l = (⟨2, [], (numT l).1, 0, 0⟩, l.length, (numT l).2) := by
    unfold nextT; simp only []; rw [if_neg q3, if_pos hd0, runB_all wordB l hw, List.take_length]
  rw [rdA]
  simp only [List.length_cons, hbl, List.drop_succ_cons, List.drop_zero, List.take_succ_cons, List.take_zero]
  rw [if_neg (by simp), if_neg (by simp), if_neg hne, hn, hT, hR]
  simp [adv]

theorem read_as (s : ByteArray) (n : Int) (hr : ReadsAs s n) (w : World) (h0 : Lay0 w) :
    Calls Try.prog 13 #[.string s, .int .i64 0] w fun e w' => ∃ g cap, e = .returned (.tuple #[.slice (some ⟨g, 0, none⟩) 2 cap, .agg #[.int .i64 0, .int .i64 0, .int .i64 0], .int .i64 0]) ∧
      2 ≤ cap ∧ w.heap.size ≤ g ∧ g < w'.heap.size ∧ w'.cell? ⟨g, 0, none⟩ = some (.int .i64 2) ∧ w'.cell? ⟨g, 1, none⟩ = some (.string ⟨#[]⟩) ∧ w'.cell? ⟨g, 2, none⟩ = some (.int .i64 n) ∧ Below w.heap.size w w' := by
  obtain ⟨h1, c1, c2, h2⟩ := hr
  refine (token_Read s 0 w (by unfold maxLen; omega) h0).mono ?_
  rintro e w' ⟨v, he, hown, hb⟩
  rw [h2] at he hown
  obtain ⟨g, cap, rfl, hg1, hg2, hcap, hcells⟩ := tok_row hown (by simp)
  exact ⟨g, cap, he, hcap, hg1, hg2, hcells 0 _ rfl 0 _ rfl, hcells 0 _ rfl 1 _ rfl, hcells 0 _ rfl 2 _ rfl, hb⟩

set_option maxHeartbeats 4000000 in
theorem numbers_walk (n d : Int) (w : World) (hn0 : 0 ≤ n) (hn1 : n ≤ 4294967295) (hd0 : 0 ≤ d) (hd1 : d ≤ 255) (h0 : Lay0 w) :
    Calls Try.prog 6 #[.int .u32 n, .int .u8 d] w fun e w' => e = .returned (.bool true) ∧ Below w.heap.size w w' := by
  obtain ⟨n, rfl⟩ := Int.eq_ofNat_of_zero_le hn0
  obtain ⟨d, rfl⟩ := Int.eq_ofNat_of_zero_le hd0
  obtain ⟨b10, b8, b16, b17, s1, s2, s3, h10, h8, h16, h17, a1, a2, a3, r0, r1, r2, r3⟩ := four_texts n (by omega)
  unfold Adds at a1 a2 a3
  go_enter Try.func6, Try.ntmps6
  go_wp2_with fail
  refine (h10 _).mono ?_
  rintro e w1 ⟨rfl, k1, rfl⟩
  go_wp2_with fail
  refine (h8 _).mono ?_
  rintro e w1 ⟨rfl, k2, rfl⟩
  go_wp2_with fail
  refine (h16 _).mono ?_
  rintro e w1 ⟨rfl, k3, rfl⟩
  go_wp2_with fail
  refine (h17 _).mono ?_
  rintro e w1 ⟨rfl, k4, rfl⟩
  go_wp2_with fail
  have R0 := Lib.hid r0; have R1 := Lib.hid r1; have R2 := Lib.hid r2; have R3 := Lib.hid r3
  clear r0 r1 r2 r3 h10 h8 h16 h17 a1 a2 a3
  go_loopw [31] (fun i wr => ∃ k : Nat, k ≤ 4 ∧ i = .int .i64 k ∧ Holds wr w.heap.size #[.string b10, .string s1, .string s2, .string s3] 9 ∧ Below w.heap.size w wr) (fun i _ => 4 - (intOf i).toNat)
  case atStart => exact ⟨0, by omega, rfl, Holds.new _ _ _, (below_drewN (Below.refl _ _) _).alloc (Nat.le_refl _) _⟩
  case round =>
    obtain ⟨k, hk, rfl, hH, hbel⟩ := hrel
    obtain ⟨c0, c1, c2, c3⟩ := four hH
    have hL : Lay0 wr := h0.keeps (Keeps.of_fresh hbel (fun _ => False)) (fun e => e)
    have : k = 0 ∨ k = 1 ∨ k = 2 ∨ k = 3 ∨ k = 4 := by omega
    rcases this with rfl | rfl | rfl | rfl | rfl
    · go_wp2_with fail
      refine (read_as _ _ R0.out _ hL).mono ?_
      rintro e w1 ⟨g, cap, rfl, hcap, hg1, hg2, q0, q1, q2, hb1⟩
      have hs1 := hb1.size
      have hK : Keeps (fun _ => False) wr w1 := Keeps.of_fresh hb1 _
      have hH1 := hH.keeps hK (fun e => e)
      have hb2 : Below w.heap.size w w1 := hbel.trans (hb1.mono hbel.size)
      clear c0 c1 c2 c3
      cases hz : ((n : Int) == 0)
      all_goals
        go_wp2_with fail
        go_roundw
        case rel => exact ⟨0 + 1, by omega, by go_num, hH1.alloc _, hb2.alloc hb2.size _⟩
        case measure => simp [intOf]
    · go_wp2_with fail
      refine (read_as _ _ R1.out _ hL).mono ?_
      rintro e w1 ⟨g, cap, rfl, hcap, hg1, hg2, q0, q1, q2, hb1⟩
      have hs1 := hb1.size
      have hK : Keeps (fun _ => False) wr w1 := Keeps.of_fresh hb1 _
      have hH1 := hH.keeps hK (fun e => e)
      have hb2 : Below w.heap.size w w1 := hbel.trans (hb1.mono hbel.size)
      clear c0 c1 c2 c3
      cases hz : ((n : Int) == 0)
      all_goals
        go_wp2_with fail
        go_roundw
        case rel => exact ⟨1 + 1, by omega, by go_num, hH1.alloc _, hb2.alloc hb2.size _⟩
        case measure => simp [intOf]
    · go_wp2_with fail
      refine (read_as _ _ R2.out _ hL).mono ?_
      rintro e w1 ⟨g, cap, rfl, hcap, hg1, hg2, q0, q1, q2, hb1⟩
      have hs1 := hb1.size
      have hK : Keeps (fun _ => False) wr w1 := Keeps.of_fresh hb1 _
      have hH1 := hH.keeps hK (fun e => e)
      have hb2 : Below w.heap.size w w1 := hbel.trans (hb1.mono hbel.size)
      clear c0 c1 c2 c3
      cases hz : ((n : Int) == 0)
      all_goals
        go_wp2_with fail
        go_roundw
        case rel => exact ⟨2 + 1, by omega, by go_num, hH1.alloc _, hb2.alloc hb2.size _⟩
        case measure => simp [intOf]
    · go_wp2_with fail
      refine (read_as _ _ R3.out _ hL).mono ?_
      rintro e w1 ⟨g, cap, rfl, hcap, hg1, hg2, q0, q1, q2, hb1⟩
      have hs1 := hb1.size
      have hK : Keeps (fun _ => False) wr w1 := Keeps.of_fresh hb1 _
      have hH1 := hH.keeps hK (fun e => e)
      have hb2 : Below w.heap.size w w1 := hbel.trans (hb1.mono hbel.size)
      clear c0 c1 c2 c3
      cases hz : ((n : Int) == 0)
      all_goals
        go_wp2_with fail
        go_roundw
        case rel => exact ⟨3 + 1, by omega, by go_num, hH1.alloc _, hb2.alloc hb2.size _⟩
        case measure => simp [intOf]
    · obtain ⟨b, s, hb, ha, hsz, hrd⟩ := beyond_text d (by omega)
      unfold Adds at ha
      have hrd2 := fun wx h => token_Read s 7 wx (by unfold maxLen; omega) h
      unfold ReadPost at hrd2
      rw [hrd] at hrd2
      have HRD := Lib.hid hrd2; clear hrd2 hrd
      go_wp2_with fail
      refine (hb _).mono ?_
      rintro e w1 ⟨rfl, k1, rfl⟩
      go_wp2_with fail
      refine (HRD.out _ (hL.keeps ((Keeps.refl (fun _ => False) wr).drewN k1) (fun e => e))).mono ?_
      rintro e w1 ⟨v, rfl, hown, hb1⟩
      unfold posAgg
      have hb1' : Below wr.heap.size wr w1 := ⟨hb1.os, hb1.tape, hb1.output, hb1.size, hb1.block⟩
      have hb2 : Below w.heap.size w w1 := hbel.trans (hb1'.mono hbel.size)
      have hL1 : Lay0 w1 := h0.keeps (Keeps.of_fresh hb2 (fun _ => False)) (fun e => e)
      obtain ⟨ao, cap, rfl⟩ := ownsRow_shape hown
      go_wp2_with fail
      refine (law_awake _ (hL1.keeps ((Keeps.refl (fun _ => False) w1).alloc _) (fun e => e))).mono ?_
      rintro e w2 ⟨rfl, hb3⟩
      go_wp2_with fail
      go_ret
      exact ⟨rfl, (hb2.alloc hb2.size _).trans (hb3.mono (by have := hb2.size; simp; omega))⟩
end Go.Proofs.Ytdigoicdgeebhaa
