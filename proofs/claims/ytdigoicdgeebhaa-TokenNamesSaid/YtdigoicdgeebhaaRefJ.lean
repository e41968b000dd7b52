/- Contracts of the reference of token: next, signs. -/
import Derived.Test.YtdigoicdgeebhaaRefI
namespace Go.Proofs.Ytdigoicdgeebhaa
open Go.RowKit

/-- The pairs of signs as the reference lists them. -/
def pairB (k : Nat) : ByteArray := ⟨(pairsL.getD k []).toArray⟩
def pairCells : Array Value := #[.string ⟨#[60, 60]⟩, .string ⟨#[62, 62]⟩, .string ⟨#[60, 61]⟩, .string ⟨#[62, 61]⟩, .string ⟨#[61, 61]⟩, .string ⟨#[33, 61]⟩, .string ⟨#[38, 38]⟩, .string ⟨#[124, 124]⟩]
theorem pair_cases {p : Nat → Prop} (h0 : p 0) (h1 : p 1) (h2 : p 2) (h3 : p 3) (h4 : p 4) (h5 : p 5) (h6 : p 6) (h7 : p 7) : ∀ k, k < 8 → p k
  | 0, _ => h0
  | 1, _ => h1
  | 2, _ => h2
  | 3, _ => h3
  | 4, _ => h4
  | 5, _ => h5
  | 6, _ => h6
  | 7, _ => h7
  | n + 8, h => absurd h (by omega)
theorem pair_cell : ∀ k, k < 8 → pairCells[k]? = some (.string (pairB k)) := pair_cases rfl rfl rfl rfl rfl rfl rfl rfl
theorem pair_size : ∀ k, k < 8 → (pairB k).size = 2 := pair_cases rfl rfl rfl rfl rfl rfl rfl rfl
theorem pair_mem : ∀ k, k < 8 → pairsL.getD k [] ∈ pairsL := pair_cases (by decide) (by decide) (by decide) (by decide) (by decide) (by decide) (by decide) (by decide)
theorem pair_len : ∀ k, k < 8 → (pairsL.getD k []).length = 2 := pair_cases rfl rfl rfl rfl rfl rfl rfl rfl
theorem pair_hit {l : List UInt8} {k : Nat} (hk : k < 8) (h : Lib.hasPrefix l (pairsL.getD k []) = true) : signN l = 2 ∧ l.take 2 = pairsL.getD k [] := by
  constructor
  · unfold signN
    rw [if_pos]
    exact List.any_eq_true.2 ⟨_, pair_mem k hk, h⟩
  · have := List.prefix_iff_eq_take.1 (List.isPrefixOf_iff_prefix.1 h)
    rw [pair_len k hk] at this
    exact this.symm
theorem pair_miss {l : List UInt8} (h : ∀ m, m < 8 → Lib.hasPrefix l (pairsL.getD m []) = false) : signN l = if memB singlesL (l.headD 0).toNat = true then 1 else 0 := by
  unfold signN
  rw [if_neg]
  have e : pairsL = [pairsL.getD 0 [], pairsL.getD 1 [], pairsL.getD 2 [], pairsL.getD 3 [], pairsL.getD 4 [], pairsL.getD 5 [], pairsL.getD 6 [], pairsL.getD 7 []] := rfl
  rw [e]
  simp only [List.any_cons, List.any_nil]
  rw [h 0 (by omega), h 1 (by omega), h 2 (by omega), h 3 (by omega), h 4 (by omega), h 5 (by omega), h 6 (by omega), h 7 (by omega)]
  decide
theorem cell_at {w : World} {b : Nat} {cs : Array Value} {t : TypeId} (h : Holds w b cs t) {k : Nat} {v : Value} (hv : cs[k]? = some v) : w.cell? ⟨b, k, none⟩ = some v := by rw [h.cell k, hv]

def SRel (s : ByteArray) (a : Nat) (line col : Int) (w : World) (f : Nat) (y : Value) (wr : World) : Prop :=
  ∃ k : Nat, k ≤ 8 ∧ 8 ≤ k + f ∧ y = .int .i64 k ∧ (∀ m, m < k → Lib.hasPrefix (s.data.toList.drop a) (pairsL.getD m []) = false) ∧ Holds wr w.heap.size (rfCells s a line col) 59 ∧
    Holds wr (w.heap.size + 1) #[.int .i64 0, .string ⟨#[]⟩, .int .i64 0, .int .i64 0, .int .i64 0, .int .i64 0] 40 ∧ Holds wr (w.heap.size + 2) pairCells 9 ∧ Below w.heap.size w wr

theorem new3 (w : World) (o p : Obj) (n : Nat) (cs : Array Value) (t : TypeId) : Holds ((((w.alloc o).alloc p).drewN n).alloc (.cells cs t)) (w.heap.size + 2) cs t := by
  have h := Holds.new (((w.alloc o).alloc p).drewN n) cs t
  rwa [show (((w.alloc o).alloc p).drewN n).heap.size = w.heap.size + 2 from by simp] at h

/-- How the walk comes to the signs. -/
def SignWay (s : ByteArray) (a : Nat) (h1 : a < s.size) : Prop :=
  (((s[a].toNat : Int) == 38) = false ∧ ((s[a].toNat : Int) == 47) = false) ∨ (((s[a].toNat : Int) == 38) = true ∧ ((s[a].toNat : Int) == 47) = false ∧ ¬ a + 1 < s.size) ∨
  (((s[a].toNat : Int) == 38) = true ∧ ((s[a].toNat : Int) == 47) = false ∧ ∃ g : a + 1 < s.size, letterB s[a + 1].toNat = false ∧ ((s[a + 1].toNat : Int) == 95) = false) ∨
  (((s[a].toNat : Int) == 38) = false ∧ ((s[a].toNat : Int) == 47) = true ∧ Hid (slashV (s.data.toList.drop a) = 0))

set_option maxHeartbeats 8000000 in
set_option maxRecDepth 100000 in
theorem rnext_sign (s : ByteArray) (a : Nat) (line col : Int) (w : World) (hs : s.size ≤ 16000) (h1 : a < s.size) (hc : ¬ (letterB s[a].toNat = true ∨ (s[a].toNat : Int) = 95 ∨ (s[a].toNat : Int) = 35)) (hd : digitB s[a].toNat = false) (hq : ¬ (s[a].toNat : Int) = 34)
    (hway : SignWay s a h1) (hsg : nextT (s.data.toList.drop a) = sgT (s.data.toList.drop a)) :
    Calls Try.prog 31 #[.agg (rfCells s a line col)] w (NextR s a w) := by
  have hH := hd_at s a h1
  have HSG := Lib.hid hsg; clear hsg
  have hq' : ((s[a].toNat : Int) == 34) = false := by simpa using hq
  have hd1 : ¬ (48 ≤ (s[a].toNat : Int) ∧ (s[a].toNat : Int) ≤ 57) := by unfold digitB at hd; simpa using hd
  have hdc : decide (48 ≤ (s[a].toNat : Int)) = false ∨ decide (48 ≤ (s[a].toNat : Int)) = true ∧ decide ((s[a].toNat : Int) ≤ 57) = false := by
    by_cases x : 48 ≤ (s[a].toNat : Int)
    · right; simp; omega
    · left; simp; omega
  obtain ⟨h, h', h''⟩ := rcs_no _ hc
  have hsla := fun wx => ref_slashed s a wx (by omega) h1
  have HH := Lib.hid hH
  have HSL := Lib.hid hsla
  have hamong : ∀ wx, Calls Try.prog 52 #[.int .u8 s[a].toNat, .string ⟨#[123, 125, 40, 41, 60, 62, 91, 93, 59, 61, 44, 43, 45, 42, 47, 37, 38, 124, 94, 126, 33, 63, 58]⟩] wx fun e w' => e = .returned (.bool (memB singlesL s[a].toNat)) ∧ wx = w' := fun wx => ref_among s[a].toNat ⟨#[123, 125, 40, 41, 60, 62, 91, 93, 59, 61, 44, 43, 45, 42, 47, 37, 38, 124, 94, 126, 33, 63, 58]⟩ wx (by simp [maxLen, ByteArray.size])
  have HAM := Lib.hid hamong
  have HSL0 : slashV (s.data.toList.drop a) = 0 → Hid (∀ wx, Calls Try.prog 58 #[.string s, .int .i64 a] wx fun e w' => e = .returned (.int .i64 0) ∧ wx = w') := by
    intro e wx
    have := HSL.out wx
    rw [e] at this
    exact this
  have HS0 := Lib.hid HSL0
  clear hH hc hq hd hd1 hsla hamong HSL0
  have hcs : (decide (48 ≤ (s[a].toNat : Int)) = true ∧ decide ((s[a].toNat : Int) ≤ 57) = false ∧ ((s[a].toNat : Int) == 38) = false ∧ ((s[a].toNat : Int) == 47) = false) ∨
      (decide (48 ≤ (s[a].toNat : Int)) = false ∧ ((s[a].toNat : Int) == 38) = false ∧ ((s[a].toNat : Int) == 47) = false) ∨
      (decide (48 ≤ (s[a].toNat : Int)) = false ∧ ((s[a].toNat : Int) == 38) = true ∧ ((s[a].toNat : Int) == 47) = false ∧ ¬ a + 1 < s.size) ∨
      (decide (48 ≤ (s[a].toNat : Int)) = false ∧ ((s[a].toNat : Int) == 38) = true ∧ ((s[a].toNat : Int) == 47) = false ∧ ∃ g : a + 1 < s.size, letterB s[a + 1].toNat = false ∧ ((s[a + 1].toNat : Int) == 95) = false) ∨
      (decide (48 ≤ (s[a].toNat : Int)) = false ∧ ((s[a].toNat : Int) == 38) = false ∧ ((s[a].toNat : Int) == 47) = true ∧ Hid (slashV (s.data.toList.drop a) = 0)) := by
    rcases hway with ⟨x, y⟩ | ⟨x, y, z⟩ | ⟨x, y, z⟩ | ⟨x, y, z⟩
    · rcases hdc with d | ⟨d, d'⟩
      · exact .inr (.inl ⟨d, x, y⟩)
      · exact .inl ⟨d, d', x, y⟩
    · refine .inr (.inr (.inl ⟨?_, x, y, z⟩)); simp at x ⊢; omega
    · refine .inr (.inr (.inr (.inl ⟨?_, x, y, z⟩))); simp at x ⊢; omega
    · refine .inr (.inr (.inr (.inr ⟨?_, x, y, z⟩))); simp at y ⊢; omega
  clear hway hdc
  unfold rfCells
  rcases hcs with ⟨x1, x2, x3, x4⟩ | ⟨x1, x2, x3⟩ | ⟨x1, x2, x3, x4⟩ | ⟨x1, x2, x3, x4, x5, x6⟩ | ⟨x1, x2, x3, x4⟩
  rotate_left 4
  · have HSZ := HS0.out x4.out
    go_enter Try.func31, Try.ntmps31
    go_wp2_with fail
    go_quiet (fail)
    go_upto_region 25 with (first | (go_at_call 38; refine (ref_letter _ _).mono ?_; rintro e w' ⟨rfl, rfl⟩) | (go_at_call 58; refine (HSZ.out _).mono ?_; rintro e w' ⟨rfl, rfl⟩))
    go_wp2_with fail
    go_loopg [173] 8 (fun f y wr => SRel s a line col w f y wr)
    case atStart => exact ⟨0, by omega, by omega, rfl, by intro m hm; omega, (((Holds.new w _ _).alloc _).drewN _).alloc _, ((new2 w _ _ _).drewN _).alloc _, new3 w _ _ _ _ _, (by repeat (first | with_reducible exact Below.refl _ _ | with_reducible assumption | with_reducible refine Below.setCell ?_ (by simp) _ | with_reducible refine Below.alloc ?_ (by simp; try omega) _ | with_reducible refine below_drewN ?_ _ | with_reducible refine Below.drew ?_))⟩
    case round =>
      obtain ⟨k, hk, hf, rfl, hno, hB, hT, hP, hbel⟩ := hrel
      have HNO := Lib.hid hno; clear hno
      obtain ⟨⟨c0, c1, c2, c3, c4, c5⟩, f0, f1, f2, f3, f4, f5⟩ := six hT
      have hlt := hT.lt
      by_cases hk8 : k < 8
      · have hpc := cell_at hP (pair_cell k hk8)
        have hst : ∀ wx, Holds wx w.heap.size (rfCells s a line col) 59 → Calls Try.prog 53 #[.pointer (some ⟨w.heap.size, 0, none⟩), .string (pairB k)] wx fun e w' => e = .returned (.bool (Lib.hasPrefix (s.data.toList.drop a) (pairsL.getD k []))) ∧ ∃ n, w' = wx.drewN n := fun wx hh => ref_starts s (pairB k) a line col _ wx hh (by omega) (by omega) (by rw [pair_size k hk8]; omega)
        cases hp : Lib.hasPrefix (s.data.toList.drop a) (pairsL.getD k [])
        · rw [hp] at hst
          have HP2 := Lib.hid hp; clear hp
          go_wp2_with fail
          refine (hst _ (by exact hB)).mono ?_
          rintro e w1 ⟨rfl, n1, rfl⟩
          go_wp2_with fail
          go_roundg (gk - 1)
          case measure => omega
          case rel => exact ⟨k + 1, by omega, by omega, by go_num, by intro m hm; rcases Nat.lt_succ_iff_lt_or_eq.1 hm with h | rfl; exact HNO.out m h; exact HP2.out, hB, hT, hP, below_drewN hbel _⟩
        · rw [hp] at hst
          obtain ⟨e1, e2⟩ := pair_hit hk8 hp
          have hR := Lib.hid (show nextT (s.data.toList.drop a) = (⟨4, pairsL.getD k [], 0, 0, 0⟩, 2, 0) from by rw [HSG.out]; unfold sgT; rw [e1, if_pos (by omega), e2])
          clear hp e1 e2
          go_wp2_with fail
          refine (hst _ (by exact hB)).mono ?_
          rintro e w1 ⟨rfl, n1, rfl⟩
          go_wp2_with fail
          exact bodyPost_ret (v := .tuple #[.agg #[.int .i64 4, .string (pairB k), .int .i64 0, .int .i64 0, .int .i64 0, .int .i64 0], .int .i64 2, .int .i64 0]) (by simp [results, Try.results31, go_sem, c0, c1, c2, c3, c4, c5]) rfl (NextR.of hR.out rfl (by repeat (first | with_reducible exact Below.refl _ _ | with_reducible assumption | with_reducible refine Below.setCell ?_ (by simp) _ | with_reducible refine Below.alloc ?_ (by simp; try omega) _ | with_reducible refine below_drewN ?_ _ | with_reducible refine Below.drew ?_)))
      · have hk : k = 8 := by omega
        subst hk
        have hsi := Lib.hid (pair_miss HNO.out)
        cases hm : memB singlesL s[a].toNat
        · have hR := Lib.hid (show nextT (s.data.toList.drop a) = (⟨0, [], 0, 0, 0⟩, 0, 20) from by rw [HSG.out]; unfold sgT; rw [hsi.out, HH.out, hm]; simp)
          go_wp2_with (first | (go_at_call 52; refine (HAM.out _).mono ?_; rintro e w' ⟨rfl, rfl⟩))
          exact bodyPost_ret (v := .tuple #[.agg #[.int .i64 0, .string ⟨#[]⟩, .int .i64 0, .int .i64 0, .int .i64 0, .int .i64 0], .int .i64 0, .int .i64 20]) (by simp [results, Try.results31, go_sem, c0, c1, c2, c3, c4, c5]) rfl (NextR.of hR.out rfl (by repeat (first | with_reducible exact Below.refl _ _ | with_reducible assumption | with_reducible refine Below.setCell ?_ (by simp) _ | with_reducible refine Below.alloc ?_ (by simp; try omega) _ | with_reducible refine below_drewN ?_ _ | with_reducible refine Below.drew ?_)))
        · have hR := Lib.hid (show nextT (s.data.toList.drop a) = (⟨4, (s.data.toList.drop a).take 1, 0, 0, 0⟩, 1, 0) from by rw [HSG.out]; unfold sgT; rw [hsi.out, HH.out, hm]; simp)
          go_wp2_with (first | (go_at_call 52; refine (HAM.out _).mono ?_; rintro e w' ⟨rfl, rfl⟩))
          exact bodyPost_ret (v := .tuple #[.agg #[.int .i64 4, .string (s.extract a (a + 1)), .int .i64 0, .int .i64 0, .int .i64 0, .int .i64 0], .int .i64 1, .int .i64 0]) (by simp [results, Try.results31, go_sem, c0, c1, c2, c3, c4, c5]) rfl (NextR.of hR.out (by rw [str_mid]; rfl) (by repeat (first | with_reducible exact Below.refl _ _ | with_reducible assumption | with_reducible refine Below.setCell ?_ (by simp) _ | with_reducible refine Below.alloc ?_ (by simp; try omega) _ | with_reducible refine below_drewN ?_ _ | with_reducible refine Below.drew ?_)))
  all_goals
    go_enter Try.func31, Try.ntmps31
    go_wp2_with fail
    go_quiet (fail)
    go_upto_region 25 with (first | (go_at_call 38; refine (ref_letter _ _).mono ?_; rintro e w' ⟨rfl, rfl⟩))
    go_wp2_with fail
    go_loopg [173] 8 (fun f y wr => SRel s a line col w f y wr)
    case atStart => exact ⟨0, by omega, by omega, rfl, by intro m hm; omega, (((Holds.new w _ _).alloc _).drewN _).alloc _, ((new2 w _ _ _).drewN _).alloc _, new3 w _ _ _ _ _, (by repeat (first | with_reducible exact Below.refl _ _ | with_reducible assumption | with_reducible refine Below.setCell ?_ (by simp) _ | with_reducible refine Below.alloc ?_ (by simp; try omega) _ | with_reducible refine below_drewN ?_ _ | with_reducible refine Below.drew ?_))⟩
    case round =>
      obtain ⟨k, hk, hf, rfl, hno, hB, hT, hP, hbel⟩ := hrel
      have HNO := Lib.hid hno; clear hno
      obtain ⟨⟨c0, c1, c2, c3, c4, c5⟩, f0, f1, f2, f3, f4, f5⟩ := six hT
      have hlt := hT.lt
      by_cases hk8 : k < 8
      · have hpc := cell_at hP (pair_cell k hk8)
        have hst : ∀ wx, Holds wx w.heap.size (rfCells s a line col) 59 → Calls Try.prog 53 #[.pointer (some ⟨w.heap.size, 0, none⟩), .string (pairB k)] wx fun e w' => e = .returned (.bool (Lib.hasPrefix (s.data.toList.drop a) (pairsL.getD k []))) ∧ ∃ n, w' = wx.drewN n := fun wx hh => ref_starts s (pairB k) a line col _ wx hh (by omega) (by omega) (by rw [pair_size k hk8]; omega)
        cases hp : Lib.hasPrefix (s.data.toList.drop a) (pairsL.getD k [])
        · rw [hp] at hst
          have HP2 := Lib.hid hp; clear hp
          go_wp2_with fail
          refine (hst _ (by exact hB)).mono ?_
          rintro e w1 ⟨rfl, n1, rfl⟩
          go_wp2_with fail
          go_roundg (gk - 1)
          case measure => omega
          case rel => exact ⟨k + 1, by omega, by omega, by go_num, by intro m hm; rcases Nat.lt_succ_iff_lt_or_eq.1 hm with h | rfl; exact HNO.out m h; exact HP2.out, hB, hT, hP, below_drewN hbel _⟩
        · rw [hp] at hst
          obtain ⟨e1, e2⟩ := pair_hit hk8 hp
          have hR := Lib.hid (show nextT (s.data.toList.drop a) = (⟨4, pairsL.getD k [], 0, 0, 0⟩, 2, 0) from by rw [HSG.out]; unfold sgT; rw [e1, if_pos (by omega), e2])
          clear hp e1 e2
          go_wp2_with fail
          refine (hst _ (by exact hB)).mono ?_
          rintro e w1 ⟨rfl, n1, rfl⟩
          go_wp2_with fail
          exact bodyPost_ret (v := .tuple #[.agg #[.int .i64 4, .string (pairB k), .int .i64 0, .int .i64 0, .int .i64 0, .int .i64 0], .int .i64 2, .int .i64 0]) (by simp [results, Try.results31, go_sem, c0, c1, c2, c3, c4, c5]) rfl (NextR.of hR.out rfl (by repeat (first | with_reducible exact Below.refl _ _ | with_reducible assumption | with_reducible refine Below.setCell ?_ (by simp) _ | with_reducible refine Below.alloc ?_ (by simp; try omega) _ | with_reducible refine below_drewN ?_ _ | with_reducible refine Below.drew ?_)))
      · have hk : k = 8 := by omega
        subst hk
        have hsi := Lib.hid (pair_miss HNO.out)
        cases hm : memB singlesL s[a].toNat
        · have hR := Lib.hid (show nextT (s.data.toList.drop a) = (⟨0, [], 0, 0, 0⟩, 0, 20) from by rw [HSG.out]; unfold sgT; rw [hsi.out, HH.out, hm]; simp)
          go_wp2_with (first | (go_at_call 52; refine (HAM.out _).mono ?_; rintro e w' ⟨rfl, rfl⟩))
          exact bodyPost_ret (v := .tuple #[.agg #[.int .i64 0, .string ⟨#[]⟩, .int .i64 0, .int .i64 0, .int .i64 0, .int .i64 0], .int .i64 0, .int .i64 20]) (by simp [results, Try.results31, go_sem, c0, c1, c2, c3, c4, c5]) rfl (NextR.of hR.out rfl (by repeat (first | with_reducible exact Below.refl _ _ | with_reducible assumption | with_reducible refine Below.setCell ?_ (by simp) _ | with_reducible refine Below.alloc ?_ (by simp; try omega) _ | with_reducible refine below_drewN ?_ _ | with_reducible refine Below.drew ?_)))
        · have hR := Lib.hid (show nextT (s.data.toList.drop a) = (⟨4, (s.data.toList.drop a).take 1, 0, 0, 0⟩, 1, 0) from by rw [HSG.out]; unfold sgT; rw [hsi.out, HH.out, hm]; simp)
          go_wp2_with (first | (go_at_call 52; refine (HAM.out _).mono ?_; rintro e w' ⟨rfl, rfl⟩))
          exact bodyPost_ret (v := .tuple #[.agg #[.int .i64 4, .string (s.extract a (a + 1)), .int .i64 0, .int .i64 0, .int .i64 0, .int .i64 0], .int .i64 1, .int .i64 0]) (by simp [results, Try.results31, go_sem, c0, c1, c2, c3, c4, c5]) rfl (NextR.of hR.out (by rw [str_mid]; rfl) (by repeat (first | with_reducible exact Below.refl _ _ | with_reducible assumption | with_reducible refine Below.setCell ?_ (by simp) _ | with_reducible refine Below.alloc ?_ (by simp; try omega) _ | with_reducible refine below_drewN ?_ _ | with_reducible refine Below.drew ?_)))
end Go.Proofs.Ytdigoicdgeebhaa
