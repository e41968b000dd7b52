/- Contracts of the reference of token: next. -/
import Derived.Test.YtdigoicdgeebhaaRefG
import Derived.Test.YtdigoicdgeebhaaTokF
namespace Go.Proofs.Ytdigoicdgeebhaa
open Go.RowKit

theorem str_mid (s : ByteArray) (a n : Nat) : s.extract a (a + n) = ⟨((s.data.toList.drop a).take n).toArray⟩ := by
  rw [str_take, List.drop_take, show a + n - a = n from by omega]
theorem hd_at (s : ByteArray) (a : Nat) (h : a < s.size) : (s.data.toList.drop a).headD 0 = s[a] := by rw [drop_cons s a h]; rfl
theorem getD_drop (s : ByteArray) (a n : Nat) (h : a + n < s.size) : (s.data.toList.drop a).getD n 0 = s[a + n] := by
  rw [← getD_at s (a + n) h, List.getD_eq_getElem?_getD, List.getD_eq_getElem?_getD, List.getElem?_drop]
/-- What the reference's next gives: as nextT, but for what an error leaves. -/
def NextR (s : ByteArray) (a : Nat) (w : World) (e : Ending) (w' : World) : Prop :=
  ∃ (t : Tok) (n : Nat), e = .returned (.tuple #[tokAgg 0 t, .int .i64 n, .int .i64 (nextT (s.data.toList.drop a)).2.2]) ∧
    ((nextT (s.data.toList.drop a)).2.2 = 0 → t = (nextT (s.data.toList.drop a)).1 ∧ n = (nextT (s.data.toList.drop a)).2.1) ∧ Below w.heap.size w w'
theorem NextR.of {s : ByteArray} {a : Nat} {w w' : World} {e : Ending} {t : Tok} {n : Nat} {er : Int} (h : nextT (s.data.toList.drop a) = (t, n, er)) (he : e = .returned (.tuple #[tokAgg 0 t, .int .i64 n, .int .i64 er])) (hb : Below w.heap.size w w') : NextR s a w e w' :=
  ⟨t, n, by rw [h]; exact he, by rw [h]; exact fun _ => ⟨rfl, rfl⟩, hb⟩
theorem NextR.bad {s : ByteArray} {a : Nat} {w w' : World} {e : Ending} {t t' : Tok} {n n' : Nat} {er : Int} (h : nextT (s.data.toList.drop a) = (t, n, er)) (h0 : er ≠ 0) (he : e = .returned (.tuple #[tokAgg 0 t', .int .i64 n', .int .i64 er])) (hb : Below w.heap.size w w') : NextR s a w e w' :=
  ⟨t', n', by rw [h]; exact he, by rw [h]; exact fun x => absurd x h0, hb⟩

theorem rn_len (s : ByteArray) (a : Nat) : (s.data.toList.drop a).length = s.size - a := by simp

set_option maxHeartbeats 8000000 in
set_option maxRecDepth 100000 in
theorem rnext_name (s : ByteArray) (a : Nat) (line col : Int) (w : World) (hs : s.size ≤ 16000) (h1 : a < s.size) (hc : letterB s[a].toNat = true ∨ (s[a].toNat : Int) = 95 ∨ (s[a].toNat : Int) = 35) :
    Calls Try.prog 31 #[.agg (rfCells s a line col)] w (NextR s a w) := by
  unfold rfCells
  have hH := hd_at s a h1
  have hF := Lib.hid (show nextT (s.data.toList.drop a) = if runB nameB (s.data.toList.drop a) = (s.data.toList.drop a).length ∨ ((s.data.toList.drop a).getD (runB nameB (s.data.toList.drop a)) 0).toNat ≠ 58 then (⟨1, (s.data.toList.drop a).take (runB nameB (s.data.toList.drop a)), 0, 0, 0⟩, runB nameB (s.data.toList.drop a), 0)
    else if allB wordB ((s.data.toList.drop a).take (runB nameB (s.data.toList.drop a))) = true then (⟨5, (s.data.toList.drop a).take (runB nameB (s.data.toList.drop a)), 0, 0, 0⟩, runB nameB (s.data.toList.drop a) + 1, 0) else (⟨0, [], 0, 0, 0⟩, 0, 6) from by unfold nextT; simp only [hH]; rw [if_pos hc])
  have hrun : ∀ wx, Calls Try.prog 55 #[.string s, .int .i64 a, .bool true] wx fun e w' => e = .returned (.int .i64 (runB nameB (s.data.toList.drop a))) ∧ wx = w' := fun wx => ref_run s a true wx (by omega) (by omega)
  have hn := runB_le nameB (s.data.toList.drop a)
  have hall := fun wx => ref_words (s.extract a (a + runB nameB (s.data.toList.drop a))) wx (by unfold maxLen; simp; omega)
  rw [str_mid] at hall
  simp only at hall
  generalize runB nameB (s.data.toList.drop a) = n at hF hrun hn hall
  rw [← str_mid] at hall
  have HR := Lib.hid hrun; clear hrun
  have HA := Lib.hid hall; clear hall
  have hn' : a + n ≤ s.size := by simp at hn; omega
  clear hn hH
  have hcs : letterB s[a].toNat = true ∨ letterB s[a].toNat = false ∧ ((s[a].toNat : Int) == 95) = true ∨ letterB s[a].toNat = false ∧ ((s[a].toNat : Int) == 95) = false ∧ ((s[a].toNat : Int) == 35) = true := by
    by_cases x : letterB s[a].toNat = true
    · exact .inl x
    · have x' : letterB s[a].toNat = false := by simpa using x
      by_cases b : (s[a].toNat : Int) = 95
      · exact .inr (.inl ⟨x', by simpa using b⟩)
      · have c : (s[a].toNat : Int) = 35 := by rcases hc with h | h | h; exact absurd h x; exact absurd h b; exact h
        exact .inr (.inr ⟨x', by simpa using b, by simpa using c⟩)
  clear hc
  by_cases hlt : a + n < s.size
  · have hg := getD_drop s a n hlt
    by_cases h58 : s[a + n].toNat = 58
    · have h58' : ((s[a + n].toNat : Int) == 58) = true := by simp [h58]
      cases hw : allB wordB ((s.data.toList.drop a).take n)
      · have hR := Lib.hid (show nextT (s.data.toList.drop a) = (⟨0, [], 0, 0, 0⟩, 0, 6) from by rw [hF.out, if_neg, if_neg (by simp [hw])]; rintro (h | h); rw [rn_len] at h; omega; rw [hg] at h; exact h h58)
        clear h58 hg
        rcases hcs with h | ⟨h, h'⟩ | ⟨h, h', h''⟩
        all_goals
          go_enter Try.func31, Try.ntmps31
          go_wp2_with fail
          go_quiet (fail)
          go_wp2_with (first | (go_at_call 38; refine (ref_letter _ _).mono ?_; rintro e w' ⟨rfl, rfl⟩) | (go_at_call 55; refine (HR.out _).mono ?_; rintro e w' ⟨rfl, rfl⟩) | (go_at_call 42; refine (HA.out _).mono ?_; rintro e w' ⟨rfl, rfl⟩))
          exact bodyPost_ret (v := .tuple #[.agg #[.int .i64 5, .string (s.extract a (a + n)), .int .i64 0, .int .i64 0, .int .i64 0, .int .i64 0], .int .i64 0, .int .i64 6]) (by simp [results, Try.results31, go_sem]) rfl (NextR.bad (t' := ⟨5, _, 0, 0, 0⟩) (n' := 0) hR.out (by decide) (by rw [str_mid]; rfl) (by repeat (first | with_reducible exact Below.refl _ _ | with_reducible assumption | with_reducible refine Below.setCell ?_ (by simp) _ | with_reducible refine Below.alloc ?_ (by simp; try omega) _ | with_reducible refine below_drewN ?_ _ | with_reducible refine Below.drew ?_)))
      · have hR := Lib.hid (show nextT (s.data.toList.drop a) = (⟨5, (s.data.toList.drop a).take n, 0, 0, 0⟩, n + 1, 0) from by rw [hF.out, if_neg, if_pos hw]; rintro (h | h); rw [rn_len] at h; omega; rw [hg] at h; exact h h58)
        clear h58 hg
        rcases hcs with h | ⟨h, h'⟩ | ⟨h, h', h''⟩
        all_goals
          go_enter Try.func31, Try.ntmps31
          go_wp2_with fail
          go_quiet (fail)
          go_wp2_with (first | (go_at_call 38; refine (ref_letter _ _).mono ?_; rintro e w' ⟨rfl, rfl⟩) | (go_at_call 55; refine (HR.out _).mono ?_; rintro e w' ⟨rfl, rfl⟩) | (go_at_call 42; refine (HA.out _).mono ?_; rintro e w' ⟨rfl, rfl⟩))
          exact bodyPost_ret (v := .tuple #[.agg #[.int .i64 5, .string (s.extract a (a + n)), .int .i64 0, .int .i64 0, .int .i64 0, .int .i64 0], .int .i64 (n + 1), .int .i64 0]) (by simp [results, Try.results31, go_sem]) rfl (NextR.of hR.out (by rw [str_mid]; rfl) (by repeat (first | with_reducible exact Below.refl _ _ | with_reducible assumption | with_reducible refine Below.setCell ?_ (by simp) _ | with_reducible refine Below.alloc ?_ (by simp; try omega) _ | with_reducible refine below_drewN ?_ _ | with_reducible refine Below.drew ?_)))
    · have h58' : ((s[a + n].toNat : Int) == 58) = false := by simp; omega
      have hR := Lib.hid (show nextT (s.data.toList.drop a) = (⟨1, (s.data.toList.drop a).take n, 0, 0, 0⟩, n, 0) from by rw [hF.out, if_pos]; right; rw [hg]; exact h58)
      clear h58 hg
      rcases hcs with h | ⟨h, h'⟩ | ⟨h, h', h''⟩
      all_goals
        go_enter Try.func31, Try.ntmps31
        go_wp2_with fail
        go_quiet (fail)
        go_wp2_with (first | (go_at_call 38; refine (ref_letter _ _).mono ?_; rintro e w' ⟨rfl, rfl⟩) | (go_at_call 55; refine (HR.out _).mono ?_; rintro e w' ⟨rfl, rfl⟩) | (go_at_call 42; refine (HA.out _).mono ?_; rintro e w' ⟨rfl, rfl⟩))
        exact bodyPost_ret (v := .tuple #[.agg #[.int .i64 1, .string (s.extract a (a + n)), .int .i64 0, .int .i64 0, .int .i64 0, .int .i64 0], .int .i64 n, .int .i64 0]) (by simp [results, Try.results31, go_sem]) rfl (NextR.of hR.out (by rw [str_mid]; rfl) (by repeat (first | with_reducible exact Below.refl _ _ | with_reducible assumption | with_reducible refine Below.setCell ?_ (by simp) _ | with_reducible refine Below.alloc ?_ (by simp; try omega) _ | with_reducible refine below_drewN ?_ _ | with_reducible refine Below.drew ?_)))
  · have hR := Lib.hid (show nextT (s.data.toList.drop a) = (⟨1, (s.data.toList.drop a).take n, 0, 0, 0⟩, n, 0) from by rw [hF.out, if_pos]; left; rw [rn_len]; omega)
    rcases hcs with h | ⟨h, h'⟩ | ⟨h, h', h''⟩
    all_goals
      go_enter Try.func31, Try.ntmps31
      go_wp2_with fail
      go_quiet (fail)
      go_wp2_with (first | (go_at_call 38; refine (ref_letter _ _).mono ?_; rintro e w' ⟨rfl, rfl⟩) | (go_at_call 55; refine (HR.out _).mono ?_; rintro e w' ⟨rfl, rfl⟩) | (go_at_call 42; refine (HA.out _).mono ?_; rintro e w' ⟨rfl, rfl⟩))
      exact bodyPost_ret (v := .tuple #[.agg #[.int .i64 1, .string (s.extract a (a + n)), .int .i64 0, .int .i64 0, .int .i64 0, .int .i64 0], .int .i64 n, .int .i64 0]) (by simp [results, Try.results31, go_sem]) rfl (NextR.of hR.out (by rw [str_mid]; rfl) (by repeat (first | with_reducible exact Below.refl _ _ | with_reducible assumption | with_reducible refine Below.setCell ?_ (by simp) _ | with_reducible refine Below.alloc ?_ (by simp; try omega) _ | with_reducible refine below_drewN ?_ _ | with_reducible refine Below.drew ?_)))

theorem rcs_no (c : Int) (hc : ¬ (letterB c = true ∨ c = 95 ∨ c = 35)) : letterB c = false ∧ (c == 95) = false ∧ (c == 35) = false := hcs_no c hc
theorem dig_dec (c : Int) : (digitB c = true → decide (c ≥ 48) = true ∧ decide (c ≤ 57) = true) := by
  unfold digitB; simp

set_option maxHeartbeats 8000000 in
set_option maxRecDepth 100000 in
theorem rnext_digit (s : ByteArray) (a : Nat) (line col : Int) (w : World) (hs : s.size ≤ 16000) (h1 : a < s.size) (hc : ¬ (letterB s[a].toNat = true ∨ (s[a].toNat : Int) = 95 ∨ (s[a].toNat : Int) = 35)) (hd : digitB s[a].toNat = true) :
    Calls Try.prog 31 #[.agg (rfCells s a line col)] w (NextR s a w) := by
  unfold rfCells
  have hH := hd_at s a h1
  have hF := Lib.hid (show nextT (s.data.toList.drop a) = (⟨2, [], (numT ((s.data.toList.drop a).take (runB wordB (s.data.toList.drop a)))).1, 0, 0⟩, runB wordB (s.data.toList.drop a), (numT ((s.data.toList.drop a).take (runB wordB (s.data.toList.drop a)))).2) from by unfold nextT; simp only [hH]; rw [if_neg hc, if_pos hd])
  have hrun : ∀ wx, Calls Try.prog 55 #[.string s, .int .i64 a, .bool false] wx fun e w' => e = .returned (.int .i64 (runB wordB (s.data.toList.drop a))) ∧ wx = w' := fun wx => ref_run s a false wx (by omega) (by omega)
  have hn := runB_le wordB (s.data.toList.drop a)
  have hnum := fun wx => ref_number (s.extract a (a + runB wordB (s.data.toList.drop a))) wx (by unfold maxLen; simp; omega)
  rw [str_mid] at hnum
  simp only at hnum
  generalize runB wordB (s.data.toList.drop a) = n at hF hrun hn hnum
  rw [← str_mid] at hnum
  generalize numT ((s.data.toList.drop a).take n) = N at hF hnum
  have HR := Lib.hid hrun; clear hrun
  have HA := Lib.hid hnum; clear hnum
  have hn' : a + n ≤ s.size := by simp at hn; omega
  clear hn hH
  obtain ⟨h, h', h''⟩ := rcs_no _ hc
  have hd1 : 48 ≤ (s[a].toNat : Int) := by unfold digitB at hd; simp at hd; omega
  have hd2 : (s[a].toNat : Int) ≤ 57 := by unfold digitB at hd; simp at hd; omega
  clear hc hd
  go_enter Try.func31, Try.ntmps31
  go_wp2_with fail
  go_quiet (fail)
  go_wp2_with (first | (go_at_call 38; refine (ref_letter _ _).mono ?_; rintro e w' ⟨rfl, rfl⟩) | (go_at_call 55; refine (HR.out _).mono ?_; rintro e w' ⟨rfl, rfl⟩) | (go_at_call 56; refine (HA.out _).mono ?_; rintro e w' ⟨rfl, nd, rfl⟩))
  exact bodyPost_ret (v := .tuple #[.agg #[.int .i64 2, .string ⟨#[]⟩, .int .i64 N.1, .int .i64 0, .int .i64 0, .int .i64 0], .int .i64 n, .int .i64 N.2]) (by simp [results, Try.results31, go_sem]) rfl (NextR.of hF.out rfl (by repeat (first | with_reducible exact Below.refl _ _ | with_reducible assumption | with_reducible refine Below.setCell ?_ (by simp) _ | with_reducible refine Below.alloc ?_ (by simp; try omega) _ | with_reducible refine below_drewN ?_ _ | with_reducible refine Below.drew ?_)))

theorem new2 (w : World) (o : Obj) (cs : Array Value) (t : TypeId) : Holds ((w.alloc o).alloc (.cells cs t)) (w.heap.size + 1) cs t := by
  have h := Holds.new (w.alloc o) cs t
  rwa [show (w.alloc o).heap.size = w.heap.size + 1 from by simp] at h
theorem qt_len (s : ByteArray) (a : Nat) : (s.data.toList.drop a).length = s.size - a := rn_len s a
set_option maxHeartbeats 8000000 in
set_option maxRecDepth 100000 in
theorem rnext_string (s : ByteArray) (a : Nat) (line col : Int) (w : World) (hs : s.size ≤ 16000) (h1 : a < s.size) (hc : ¬ (letterB s[a].toNat = true ∨ (s[a].toNat : Int) = 95 ∨ (s[a].toNat : Int) = 35)) (hd : digitB s[a].toNat = false) (hq : (s[a].toNat : Int) = 34) :
    Calls Try.prog 31 #[.agg (rfCells s a line col)] w (NextR s a w) := by
  unfold rfCells
  have hH := hd_at s a h1
  have hF := Lib.hid (show nextT (s.data.toList.drop a) = (⟨3, (qtA (s.size - a) (s.data.toList.drop (a + 1)) [] 1).1, 0, 0, 0⟩, (qtA (s.size - a) (s.data.toList.drop (a + 1)) [] 1).2.1, (qtA (s.size - a) (s.data.toList.drop (a + 1)) [] 1).2.2) from by
    unfold nextT; simp only [hH]; rw [if_neg hc, if_neg (by simp [hd]), if_pos hq, rn_len, List.drop_drop])
  have hnum := fun wx => ref_text s a wx (by omega) h1
  unfold TextPost at hnum
  generalize qtA (s.size - a) (s.data.toList.drop (a + 1)) [] 1 = Q at hF hnum
  have HA := Lib.hid hnum; clear hnum
  have hq' : ((s[a].toNat : Int) == 34) = true := by simpa using hq
  have hd1 : decide (48 ≤ (s[a].toNat : Int)) = false := by simp; omega
  obtain ⟨h, h', h''⟩ := rcs_no _ hc
  clear hc hq hH hd
  go_enter Try.func31, Try.ntmps31
  go_wp2_with fail
  go_quiet (fail)
  go_wp2_with (first | (go_at_call 38; refine (ref_letter _ _).mono ?_; rintro e w' ⟨rfl, rfl⟩))
  refine (HA.out _).mono ?_
  rintro e w1 ⟨rfl, hb1⟩
  have hB : Holds w1 (w.heap.size + 1) #[.int .i64 0, .string ⟨#[]⟩, .int .i64 0, .int .i64 0, .int .i64 0, .int .i64 0] 40 := (hb1.block (w.heap.size + 1) (by simp)).trans (new2 w _ _ _).out
  obtain ⟨⟨c0, c1, c2, c3, c4, c5⟩, f0, f1, f2, f3, f4, f5⟩ := six hB
  have hlt := hB.lt
  have hb2 : Below w.heap.size w w1 := Below.trans (by repeat (first | with_reducible exact Below.refl _ _ | with_reducible assumption | with_reducible refine Below.setCell ?_ (by simp) _ | with_reducible refine Below.alloc ?_ (by simp; try omega) _ | with_reducible refine below_drewN ?_ _ | with_reducible refine Below.drew ?_)) (hb1.mono (by simp; omega))
  go_wp2_with fail
  exact bodyPost_ret (v := .tuple #[.agg #[.int .i64 3, .string ⟨Q.1.toArray⟩, .int .i64 0, .int .i64 0, .int .i64 0, .int .i64 0], .int .i64 Q.2.1, .int .i64 Q.2.2]) (by simp [results, Try.results31, go_sem, c0, c1, c2, c3, c4, c5]) rfl (NextR.of hF.out rfl (by repeat (first | with_reducible exact Below.refl _ _ | with_reducible assumption | with_reducible refine Below.setCell ?_ (by simp) _ | with_reducible refine Below.alloc ?_ (by simp; try omega) _ | with_reducible refine below_drewN ?_ _ | with_reducible refine Below.drew ?_)))
end Go.Proofs.Ytdigoicdgeebhaa
