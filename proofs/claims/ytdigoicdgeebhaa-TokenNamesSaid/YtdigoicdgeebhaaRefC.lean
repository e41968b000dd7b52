/- Contracts of the reference's reader: step, starts, ends. -/
import Derived.Test.YtdigoicdgeebhaaRefA
import Derived.Test.YtdigoicdgeebhaaTokB
import Derived.Test.YtdigoicdgeebhaaTokT
namespace Go.Proofs.Ytdigoicdgeebhaa
open Go.RowKit

/-- The cells of the reference's reader. -/
def rfCells (s : ByteArray) (i : Nat) (line col : Int) : Array Value := #[.string s, .int .i64 i, .int .i64 line, .int .i64 col]
theorem rf_cells {w : World} {b : Nat} {s : ByteArray} {i : Nat} {line col : Int} {t : TypeId} (h : Holds w b (rfCells s i line col) t) :
    w.cell? ⟨b, 0, none⟩ = some (.string s) ∧ w.cell? ⟨b, 1, none⟩ = some (.int .i64 i) ∧ w.cell? ⟨b, 2, none⟩ = some (.int .i64 line) ∧ w.cell? ⟨b, 3, none⟩ = some (.int .i64 col) ∧
    w.frozen? ⟨b, 0, none⟩ = false ∧ w.frozen? ⟨b, 1, none⟩ = false ∧ w.frozen? ⟨b, 2, none⟩ = false ∧ w.frozen? ⟨b, 3, none⟩ = false :=
  ⟨h.cell 0, h.cell 1, h.cell 2, h.cell 3, h.free 0, h.free 1, h.free 2, h.free 3⟩

set_option maxHeartbeats 1000000 in
theorem ref_step (s : ByteArray) (i n : Nat) (line col : Int) (b : Nat) (w : World) (h : Holds w b (rfCells s i line col) 59) (hi : i + n ≤ s.size) (hs : s.size ≤ 140737488355328)
    (hl : 1 ≤ line) (hl' : line ≤ i + 1) (hc : 1 ≤ col) (hc' : col ≤ i + 1) :
    Calls Try.prog 32 #[.pointer (some ⟨b, 0, none⟩), .int .i64 n] w fun e w' => e = .returned (.tuple #[]) ∧
      Holds w' b (rfCells s (i + n) (adv ((s.data.toList.drop i).take n) (line, col)).1 (adv ((s.data.toList.drop i).take n) (line, col)).2) 59 ∧ Keeps (· = b) w w' := by
  go_enter Try.func32, Try.ntmps32
  go_wp2
  go_loopw [1] (fun n' wr => ∃ j m : Nat, ∃ l c : Int, i ≤ j ∧ j + m = i + n ∧ n' = .int .i64 m ∧ 1 ≤ l ∧ l ≤ j + 1 ∧ 1 ≤ c ∧ c ≤ j + 1 ∧ Hid ((l, c) = adv ((s.data.toList.drop i).take (j - i)) (line, col)) ∧ Holds wr b (rfCells s j l c) 59 ∧ Keeps (· = b) w wr) (fun n' _ => (intOf n').toNat)
  case atStart => exact ⟨i, n, line, col, Nat.le_refl _, rfl, rfl, hl, hl', hc, hc', by simp [Hid, adv], h, Keeps.refl _ _⟩
  case round =>
    obtain ⟨j, m, l, c, hij, hjm, rfl, hl1, hl2, hc1, hc2, hA, hH, hK⟩ := hrel
    obtain ⟨c0, c1, c2, c3, f0, f1, f2, f3⟩ := rf_cells hH
    by_cases hm : 0 < m
    · have hjs : j < s.size := by omega
      have hS := Lib.hid (adv_step s i j hij hjs (line, col))
      have hmb : m ≤ 140737488355328 := by omega
      have hjm' := Lib.hid hjm; clear hjm
      have hA' := hA.out
      by_cases h10 : s[j].toNat = 10
      · have h10' : ((s[j].toNat : Int) == 10) = true := by simp [h10]
        have hN : Hid (((l + 1 : Int), (1 : Int)) = adv ((s.data.toList.drop i).take (j + 1 - i)) (line, col)) := by show _ = _; rw [hS.out, if_pos h10, ← hA']
        clear h10 hS hA'
        go_wp2
        go_quiet (fail)
        go_wp2
        go_roundw
        case rel =>
          exact ⟨j + 1, m - 1, l + 1, 1, by omega, by have := hjm'.out; omega, by rw [show ((m : Int) - 1) = ((m - 1 : Nat) : Int) from by omega], by omega, by omega, by omega, by omega, hN,
            (((((hH.set 3 _).drewN nq).set 2 _).set 3 _).set 1 _), ((((hK.setCell (.inr rfl) _).drewN nq).setCell (.inr rfl) _).setCell (.inr rfl) _).setCell (.inr rfl) _⟩
        case measure => simp [intOf]; omega
      · have h10' : ((s[j].toNat : Int) == 10) = false := by simp; omega
        have hN : Hid ((l, c + 1) = adv ((s.data.toList.drop i).take (j + 1 - i)) (line, col)) := by show _ = _; rw [hS.out, if_neg h10, ← hA']
        clear h10 hS hA'
        go_wp2
        go_quiet (fail)
        go_wp2
        go_roundw
        case rel =>
          exact ⟨j + 1, m - 1, l, c + 1, by omega, by have := hjm'.out; omega, by rw [show ((m : Int) - 1) = ((m - 1 : Nat) : Int) from by omega], by omega, by omega, by omega, by omega, hN,
            (((hH.set 3 _).drewN nq).set 1 _), ((hK.setCell (.inr rfl) _).drewN nq).setCell (.inr rfl) _⟩
        case measure => simp [intOf]; omega
    · have : m = 0 := by omega
      subst this
      go_wp2
      go_end0
      obtain rfl : j = i + n := by omega
      refine ⟨rfl, ?_, hK⟩
      have := hA.out
      rw [show i + n - i = n from by omega] at this
      rw [← this]; exact hH

theorem pre_eq (s t : ByteArray) (i : Nat) : ((s.extract i (i + t.size)).toList == t.toList) = Lib.hasPrefix (s.data.toList.drop i) t.data.toList := by
  have h2 := take_toList s i (i + t.size)
  rw [List.drop_take, show i + t.size - i = t.size from by omega] at h2
  rw [Lib.toList_data, Lib.toList_data, h2]
  unfold Lib.hasPrefix
  rw [Bool.eq_iff_iff, List.isPrefixOf_iff_prefix, List.prefix_iff_eq_take, beq_iff_eq]
  simp only [Array.length_toList]
  constructor <;> exact fun h => h.symm
theorem pre_short (s t : ByteArray) (i : Nat) (h : s.size < i + t.size) (hi : i ≤ s.size) : Lib.hasPrefix (s.data.toList.drop i) t.data.toList = false := by
  rw [Bool.eq_false_iff]; intro hp
  have := Lib.hasPrefix_le hp
  simp at this; omega

set_option maxHeartbeats 1000000 in
theorem ref_starts (s t : ByteArray) (i : Nat) (line col : Int) (b : Nat) (w : World) (h : Holds w b (rfCells s i line col) 59) (hi : i ≤ s.size) (hs : s.size ≤ 140737488355328) (ht : t.size ≤ 140737488355328) :
    Calls Try.prog 53 #[.pointer (some ⟨b, 0, none⟩), .string t] w fun e w' => e = .returned (.bool (Lib.hasPrefix (s.data.toList.drop i) t.data.toList)) ∧ ∃ n, w' = w.drewN n := by
  obtain ⟨c0, c1, c2, c3, f0, f1, f2, f3⟩ := rf_cells h
  by_cases hge : s.size - (i : Int) ≥ t.size
  · have hP := Lib.hid (pre_eq s t i)
    have hle : i + t.size ≤ s.size := by omega
    have hd : decide ((s.size : Int) - i ≥ t.size) = true := by simpa using hge
    go_enter Try.func53, Try.ntmps53
    go_wp2
    go_quiet (fail)
    go_wp2
    go_ret
    exact ⟨by rw [← hP.out]; rfl, _, rfl⟩
  · have hP := Lib.hid (pre_short s t i (by omega) hi)
    have hd : decide ((s.size : Int) - i ≥ t.size) = false := by simp; omega
    go_enter Try.func53, Try.ntmps53
    go_wp2
    go_quiet (fail)
    go_wp2
    go_ret
    exact ⟨by rw [hP.out]; rfl, _, rfl⟩

set_option maxHeartbeats 1000000 in
theorem ref_ends (s : ByteArray) (i : Nat) (line col : Int) (w : World) (hi : i ≤ s.size) (hs : s.size ≤ 140737488355328) :
    Calls Try.prog 54 #[.agg (rfCells s i line col)] w fun e w' => e = .returned (.bool (Lib.hasPrefix (s.data.toList.drop i) [42, 47])) ∧ Keeps (fun _ => False) w w' := by
  unfold rfCells
  go_enter Try.func54, Try.ntmps54
  go_wp2_with fail
  refine (ref_starts s ⟨#[42, 47]⟩ i line col w.heap.size _ (by exact Holds.new w _ _) hi hs (by simp [ByteArray.size])).mono ?_
  rintro e w1 ⟨rfl, n, rfl⟩
  go_wp2_with fail
  go_ret
  exact ⟨rfl, ((Keeps.refl _ w).alloc _).drewN n⟩
end Go.Proofs.Ytdigoicdgeebhaa
