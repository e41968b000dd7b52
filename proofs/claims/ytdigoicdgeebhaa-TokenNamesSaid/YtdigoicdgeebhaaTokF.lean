/- The contract of next of token. -/
import Derived.Test.YtdigoicdgeebhaaTokE
namespace Go.Proofs.Ytdigoicdgeebhaa
open Go.RowKit

theorem str_take (s : ByteArray) (a b : Nat) : s.extract a b = ⟨((s.data.toList.take b).drop a).toArray⟩ := by
  apply ByteArray.ext
  apply Array.toList_inj.1
  rw [take_toList]
theorem token_run0 (s : ByteArray) (g : Nat) (p : Int → Bool) (w : World) (hp : Tells g p) (eg : ∀ args w, (callFunc g args).run Try.prog w = .ok (.enter g args) w) (hs : s.size ≤ maxLen) :
    Calls Try.prog 45 #[.string s, .int .i64 0, .func (.func g) #[] #[]] w fun e w' => e = .returned (.int .i64 (runB p s.data.toList)) ∧ w = w' :=
  token_run s 0 g p w hp eg hs (Nat.zero_le _)
theorem token_run1 (s : ByteArray) (g : Nat) (p : Int → Bool) (w : World) (hp : Tells g p) (eg : ∀ args w, (callFunc g args).run Try.prog w = .ok (.enter g args) w) (hs : s.size ≤ maxLen) (h1 : 0 < s.size) :
    Calls Try.prog 45 #[.string s, .int .i64 1, .func (.func g) #[] #[]] w fun e w' => e = .returned (.int .i64 (runB p (s.data.toList.drop 1))) ∧ w = w' :=
  token_run s 1 g p w hp eg hs h1

/-- A token as a value. -/
def tokAgg (file : Int) (t : Tok) : Value := .agg #[.int .i64 t.kind, .string ⟨t.text.toArray⟩, .int .i64 t.value, .int .i64 file, .int .i64 t.line, .int .i64 t.col]
def NextPost (s : ByteArray) (w : World) (e : Ending) (w' : World) : Prop :=
  e = .returned (.tuple #[tokAgg 0 (nextT s.data.toList).1, .int .i64 (nextT s.data.toList).2.1, .int .i64 (nextT s.data.toList).2.2]) ∧ Below w.heap.size w w'

theorem len_of (s : ByteArray) : s.data.toList.length = s.size := by simp
theorem getD_of (s : ByteArray) (n : Nat) (h : n < s.size) : s.data.toList.getD n 0 = s[n] := by
  have := drop_cons s n h
  rw [List.getD_eq_getElem?_getD, List.getElem?_eq_getElem (by simpa using h)]; rfl

set_option maxHeartbeats 4000000 in
theorem next_name (s : ByteArray) (w : World) (hs : s.size ≤ 140737488355328) (h1 : 0 < s.size) (hc : letterB s[0].toNat = true ∨ (s[0].toNat : Int) = 95 ∨ (s[0].toNat : Int) = 35) :
    Calls Try.prog 28 #[.string s] w (NextPost s w) := by
  have hm : s.size ≤ maxLen := by unfold maxLen; omega
  have hH := head_of s h1
  have hF := Lib.hid (show nextT s.data.toList = if runB nameB s.data.toList = s.data.toList.length ∨ (s.data.toList.getD (runB nameB s.data.toList) 0).toNat ≠ 58 then (⟨1, s.data.toList.take (runB nameB s.data.toList), 0, 0, 0⟩, runB nameB s.data.toList, 0)
    else if allB wordB (s.data.toList.take (runB nameB s.data.toList)) = true then (⟨5, s.data.toList.take (runB nameB s.data.toList), 0, 0, 0⟩, runB nameB s.data.toList + 1, 0) else (⟨0, [], 0, 0, 0⟩, 0, 6) from by unfold nextT; simp only [hH]; rw [if_pos hc])
  have hrun := fun wx => token_run0 s 37 nameB wx tells_name enters_name hm
  have hn := runB_le nameB s.data.toList
  have hall := fun wx => token_all (s.extract 0 (runB nameB s.data.toList)) 41 wordB wx tells_word enters_word (by unfold maxLen at *; simp; omega)
  rw [take_toList, List.drop_zero] at hall
  generalize runB nameB s.data.toList = n at hF hrun hn hall
  have HR := Lib.hid hrun; clear hrun
  have HA := Lib.hid hall; clear hall
  have hn' : n ≤ s.size := by simpa using hn
  clear hn hH
  have hcs : letterB s[0].toNat = true ∨ letterB s[0].toNat = false ∧ ((s[0].toNat : Int) == 95) = true ∨ letterB s[0].toNat = false ∧ ((s[0].toNat : Int) == 95) = false ∧ ((s[0].toNat : Int) == 35) = true := by
    by_cases a : letterB s[0].toNat = true
    · exact .inl a
    · have a' : letterB s[0].toNat = false := by simpa using a
      by_cases b : (s[0].toNat : Int) = 95
      · exact .inr (.inl ⟨a', by simpa using b⟩)
      · have c : (s[0].toNat : Int) = 35 := by rcases hc with h | h | h; exact absurd h a; exact absurd h b; exact h
        exact .inr (.inr ⟨a', by simpa using b, by simpa using c⟩)
  clear hc
  by_cases hns : n = s.size
  · have hR := Lib.hid (show nextT s.data.toList = (⟨1, s.data.toList.take n, 0, 0, 0⟩, n, 0) from by rw [hF.out, if_pos (.inl (by simpa using hns))])
    have hns' : ((n : Int) == (s.size : Int)) = true := by simp; omega
    clear hns
    rcases hcs with h | ⟨h, h'⟩ | ⟨h, h', h''⟩
    all_goals
      go_enter Try.func28, Try.ntmps28
      go_wp2_with (first | (go_at_call 35; refine (token_letter _ _).mono ?_; rintro e w' ⟨rfl, rfl⟩) | (go_at_call 45; refine (HR.out _).mono ?_; rintro e w' ⟨rfl, rfl⟩))
      exact bodyPost_ret (v := .tuple #[.agg #[.int .i64 1, .string (s.extract 0 n), .int .i64 0, .int .i64 0, .int .i64 0, .int .i64 0], .int .i64 n, .int .i64 0]) (by simp [results, Try.results28, go_sem]) rfl ⟨by rw [hR.out, str_take]; rfl, (Below.refl _ _).alloc (Nat.le_refl _) _⟩
  · have hlt : n < s.size := by omega
    have hns' : ((n : Int) == (s.size : Int)) = false := by simp; omega
    have hg := getD_of s n hlt
    by_cases h58 : s[n].toNat = 58
    · have h58' : ((s[n].toNat : Int) != 58) = false := by simp [h58]
      by_cases hw : allB wordB (s.data.toList.take n) = true
      · have hR := Lib.hid (show nextT s.data.toList = (⟨5, s.data.toList.take n, 0, 0, 0⟩, n + 1, 0) from by rw [hF.out, if_neg, if_pos hw]; rintro (h | h); exact hns (by simpa using h); rw [hg] at h; exact h h58)
        clear hns h58 hg
        rcases hcs with h | ⟨h, h'⟩ | ⟨h, h', h''⟩
        all_goals
          go_enter Try.func28, Try.ntmps28
          go_wp2_with (first | (go_at_call 35; refine (token_letter _ _).mono ?_; rintro e w' ⟨rfl, rfl⟩) | (go_at_call 45; refine (HR.out _).mono ?_; rintro e w' ⟨rfl, rfl⟩) | (go_at_call 36; refine (HA.out _).mono ?_; rintro e w' ⟨rfl, rfl⟩))
          exact bodyPost_ret (v := .tuple #[.agg #[.int .i64 5, .string (s.extract 0 n), .int .i64 0, .int .i64 0, .int .i64 0, .int .i64 0], .int .i64 (n + 1), .int .i64 0]) (by simp [results, Try.results28, go_sem]) rfl ⟨by rw [hR.out, str_take]; rfl, (Below.refl _ _).alloc (Nat.le_refl _) _⟩
      · have hw : allB wordB (s.data.toList.take n) = false := by simpa using hw
        have hR := Lib.hid (show nextT s.data.toList = (⟨0, [], 0, 0, 0⟩, 0, 6) from by rw [hF.out, if_neg, if_neg (by simp [hw])]; rintro (h | h); exact hns (by simpa using h); rw [hg] at h; exact h h58)
        clear hns h58 hg
        rcases hcs with h | ⟨h, h'⟩ | ⟨h, h', h''⟩
        all_goals
          go_enter Try.func28, Try.ntmps28
          go_wp2_with (first | (go_at_call 35; refine (token_letter _ _).mono ?_; rintro e w' ⟨rfl, rfl⟩) | (go_at_call 45; refine (HR.out _).mono ?_; rintro e w' ⟨rfl, rfl⟩) | (go_at_call 36; refine (HA.out _).mono ?_; rintro e w' ⟨rfl, rfl⟩))
          exact bodyPost_ret (v := .tuple #[.agg #[.int .i64 0, .string ⟨#[]⟩, .int .i64 0, .int .i64 0, .int .i64 0, .int .i64 0], .int .i64 0, .int .i64 6]) (by simp [results, Try.results28, go_sem]) rfl ⟨by rw [hR.out]; rfl, (Below.refl _ _).alloc (Nat.le_refl _) _⟩
    · have h58' : ((s[n].toNat : Int) != 58) = true := by simp; omega
      have hR := Lib.hid (show nextT s.data.toList = (⟨1, s.data.toList.take n, 0, 0, 0⟩, n, 0) from by rw [hF.out, if_pos]; right; rw [hg]; exact h58)
      clear hns h58 hg
      rcases hcs with h | ⟨h, h'⟩ | ⟨h, h', h''⟩
      all_goals
        go_enter Try.func28, Try.ntmps28
        go_wp2_with (first | (go_at_call 35; refine (token_letter _ _).mono ?_; rintro e w' ⟨rfl, rfl⟩) | (go_at_call 45; refine (HR.out _).mono ?_; rintro e w' ⟨rfl, rfl⟩) | (go_at_call 36; refine (HA.out _).mono ?_; rintro e w' ⟨rfl, rfl⟩))
        exact bodyPost_ret (v := .tuple #[.agg #[.int .i64 1, .string (s.extract 0 n), .int .i64 0, .int .i64 0, .int .i64 0, .int .i64 0], .int .i64 n, .int .i64 0]) (by simp [results, Try.results28, go_sem]) rfl ⟨by rw [hR.out, str_take]; rfl, (Below.refl _ _).alloc (Nat.le_refl _) _⟩

theorem hcs_no (c : Int) (hc : ¬ (letterB c = true ∨ c = 95 ∨ c = 35)) : letterB c = false ∧ (c == 95) = false ∧ (c == 35) = false := by
  refine ⟨?_, ?_, ?_⟩
  · cases h : letterB c; rfl; exact absurd (.inl h) hc
  · simp; intro h; exact hc (.inr (.inl h))
  · simp; intro h; exact hc (.inr (.inr h))

set_option maxHeartbeats 4000000 in
theorem next_digit (s : ByteArray) (w : World) (hs : s.size ≤ 140737488355328) (h1 : 0 < s.size) (hc : ¬ (letterB s[0].toNat = true ∨ (s[0].toNat : Int) = 95 ∨ (s[0].toNat : Int) = 35)) (hd : digitB s[0].toNat = true) :
    Calls Try.prog 28 #[.string s] w (NextPost s w) := by
  have hm : s.size ≤ maxLen := by unfold maxLen; omega
  have hH := head_of s h1
  have hF := Lib.hid (show nextT s.data.toList = (⟨2, [], (numT (s.data.toList.take (runB wordB s.data.toList))).1, 0, 0⟩, runB wordB s.data.toList, (numT (s.data.toList.take (runB wordB s.data.toList))).2) from by unfold nextT; simp only [hH]; rw [if_neg hc, if_pos hd])
  have hrun := fun wx => token_run0 s 41 wordB wx tells_word enters_word hm
  have hn := runB_le wordB s.data.toList
  have hnum := fun wx => token_number (s.extract 0 (runB wordB s.data.toList)) wx (by unfold maxLen at *; simp; omega)
  rw [take_toList, List.drop_zero] at hnum
  generalize runB wordB s.data.toList = n at hF hrun hn hnum
  generalize numT (s.data.toList.take n) = N at hF hnum
  have HR := Lib.hid hrun; clear hrun
  have HA := Lib.hid hnum; clear hnum
  have hn' : n ≤ s.size := by simpa using hn
  clear hn hH
  obtain ⟨h, h', h''⟩ := hcs_no _ hc
  clear hc
  go_enter Try.func28, Try.ntmps28
  go_wp2_with (first | (go_at_call 35; refine (token_letter _ _).mono ?_; rintro e w' ⟨rfl, rfl⟩) | (go_at_call 40; refine (token_digit _ _).mono ?_; rintro e w' ⟨rfl, rfl⟩) | (go_at_call 45; refine (HR.out _).mono ?_; rintro e w' ⟨rfl, rfl⟩) | (go_at_call 48; refine (HA.out _).mono ?_; rintro e w' ⟨rfl, nd, rfl⟩))
  exact bodyPost_ret (v := .tuple #[.agg #[.int .i64 2, .string ⟨#[]⟩, .int .i64 N.1, .int .i64 0, .int .i64 0, .int .i64 0], .int .i64 n, .int .i64 N.2]) (by simp [results, Try.results28, go_sem]) rfl ⟨by rw [hF.out]; rfl,
    ((((((below_drewN ((Below.refl _ _).alloc (Nat.le_refl _) _) nd).setCell (Nat.le_refl _) _).setCell (Nat.le_refl _) _).setCell (Nat.le_refl _) _).setCell (Nat.le_refl _) _).setCell (Nat.le_refl _) _).setCell (Nat.le_refl _) _⟩

/-- Six cells of a block, as a walk wants them. -/
theorem six {w : World} {b : Nat} {x0 x1 x2 x3 x4 x5 : Value} {t : TypeId} (h : Holds w b #[x0, x1, x2, x3, x4, x5] t) :
    (w.cell? ⟨b, 0, none⟩ = some x0 ∧ w.cell? ⟨b, 1, none⟩ = some x1 ∧ w.cell? ⟨b, 2, none⟩ = some x2 ∧ w.cell? ⟨b, 3, none⟩ = some x3 ∧ w.cell? ⟨b, 4, none⟩ = some x4 ∧ w.cell? ⟨b, 5, none⟩ = some x5) ∧
    (w.frozen? ⟨b, 0, none⟩ = false ∧ w.frozen? ⟨b, 1, none⟩ = false ∧ w.frozen? ⟨b, 2, none⟩ = false ∧ w.frozen? ⟨b, 3, none⟩ = false ∧ w.frozen? ⟨b, 4, none⟩ = false ∧ w.frozen? ⟨b, 5, none⟩ = false) :=
  ⟨⟨h.cell 0, h.cell 1, h.cell 2, h.cell 3, h.cell 4, h.cell 5⟩, h.free 0, h.free 1, h.free 2, h.free 3, h.free 4, h.free 5⟩

set_option maxHeartbeats 4000000 in
theorem next_string (s : ByteArray) (w : World) (hs : s.size ≤ 140737488355328) (h1 : 0 < s.size) (hc : ¬ (letterB s[0].toNat = true ∨ (s[0].toNat : Int) = 95 ∨ (s[0].toNat : Int) = 35)) (hd : digitB s[0].toNat = false) (hq : (s[0].toNat : Int) = 34) :
    Calls Try.prog 28 #[.string s] w (NextPost s w) := by
  have hH := head_of s h1
  have hF := Lib.hid (show nextT s.data.toList = (⟨3, (qtA s.data.toList.length (s.data.toList.drop 1) [] 1).1, 0, 0, 0⟩, (qtA s.data.toList.length (s.data.toList.drop 1) [] 1).2.1, (qtA s.data.toList.length (s.data.toList.drop 1) [] 1).2.2) from by unfold nextT; simp only [hH]; rw [if_neg hc, if_neg (by simp [hd]), if_pos hq])
  have hnum := fun wx => token_quoted s wx hs h1
  generalize qtA s.data.toList.length (s.data.toList.drop 1) [] 1 = Q at hF hnum
  have HA := Lib.hid hnum; clear hnum
  have hq' : ((s[0].toNat : Int) == 34) = true := by simpa using hq
  obtain ⟨h, h', h''⟩ := hcs_no _ hc
  clear hc hq hH
  go_enter Try.func28, Try.ntmps28
  go_wp2_with (first | (go_at_call 35; refine (token_letter _ _).mono ?_; rintro e w' ⟨rfl, rfl⟩) | (go_at_call 40; refine (token_digit _ _).mono ?_; rintro e w' ⟨rfl, rfl⟩))
  refine (HA.out _).mono ?_
  rintro e w1 ⟨rfl, hb1⟩
  have hB : Holds w1 w.heap.size #[.int .i64 0, .string ⟨#[]⟩, .int .i64 0, .int .i64 0, .int .i64 0, .int .i64 0] 40 := (hb1.block w.heap.size (by simp)).trans (Holds.new w _ _)
  obtain ⟨⟨c0, c1, c2, c3, c4, c5⟩, f0, f1, f2, f3, f4, f5⟩ := six hB
  have hlt := hB.lt
  have hb2 : Below w.heap.size w w1 := ((Below.refl _ _).alloc (Nat.le_refl _) _).trans (hb1.mono (by simp))
  go_wp2_with fail
  exact bodyPost_ret (v := .tuple #[.agg #[.int .i64 3, .string ⟨Q.1.toArray⟩, .int .i64 0, .int .i64 0, .int .i64 0, .int .i64 0], .int .i64 Q.2.1, .int .i64 Q.2.2]) (by simp [results, Try.results28, go_sem, c0, c1, c2, c3, c4, c5]) rfl ⟨by rw [hF.out]; rfl,
    (((((hb2.setCell (Nat.le_refl _) _).setCell (Nat.le_refl _) _).setCell (Nat.le_refl _) _).setCell (Nat.le_refl _) _).setCell (Nat.le_refl _) _).setCell (Nat.le_refl _) _⟩

end Go.Proofs.Ytdigoicdgeebhaa
