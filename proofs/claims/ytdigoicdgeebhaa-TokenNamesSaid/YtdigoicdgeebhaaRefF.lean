/- Contracts of the reference of token: text. -/
import Derived.Test.YtdigoicdgeebhaaRefE
import Derived.Test.YtdigoicdgeebhaaTokE
import Derived.Laws.IdiomStrings
namespace Go.Proofs.Ytdigoicdgeebhaa
open Go.RowKit

/-- A row of bytes of the call's own, as a string. -/
theorem bytes_conv {w : World} {base : Nat} {v : Value} {acc : List UInt8} (h : w.ownsRow base 5 1 v acc.length (Lib.byteCells acc)) :
    (convert 46 9 v).run Try.prog w = .ok (.string ⟨acc.toArray⟩) w := by
  rcases h.2 with ⟨rfl, h0⟩ | ⟨g, cap, cur, rfl, hb, hh, hcap, hr⟩
  · have : acc = [] := List.eq_nil_of_length_eq_zero h0
    subst this
    exact run_convert_bytes_nil w _ _ Try.underlying46 Try.underlying5 0 0 _ Try.underlying9
  · refine run_convert_bytes_back w _ _ _ ⟨g, 0, none⟩ cap acc Try.underlying46 Try.underlying5 Try.underlying9 ?_
    intro j hj
    exact h.cells (g := g) rfl j _ (by simp [Lib.byteCells, hj])
theorem bytes_shape {w : World} {base : Nat} {e : TypeId} {v : Value} {n : Nat} {xs : List Value} (h : w.ownsRow base e 1 v n xs) : ∃ a cap, v = .slice a n cap := by
  rcases h.2 with ⟨rfl, rfl⟩ | ⟨g, cap, cur, rfl, _⟩
  · exact ⟨none, 0, rfl⟩
  · exact ⟨_, cap, rfl⟩

def TextPost (Q : List UInt8 × Nat × Int) (w : World) (e : Ending) (w' : World) : Prop :=
  e = .returned (.tuple #[.string ⟨Q.1.toArray⟩, .int .i64 Q.2.1, .int .i64 Q.2.2]) ∧ Below w.heap.size w w'
def TRel (s : ByteArray) (a : Nat) (Q : List UInt8 × Nat × Int) (w : World) (f : Nat) (x y : Value) (wr : World) : Prop :=
  ∃ (k : Nat) (acc : List UInt8), a + 1 ≤ k ∧ k ≤ s.size ∧ s.size ≤ k + f ∧ acc.length < k ∧ y = .int .i64 k ∧ qtA f (s.data.toList.drop k) acc (k - a) = Q ∧
    wr.ownsRow w.heap.size 5 1 x acc.length (Lib.byteCells acc) ∧ Below w.heap.size w wr
theorem esc_len (s : ByteArray) (k : Nat) (h : k < s.size) : k + 1 + (esc (s.data.toList.drop (k + 1))).2.1 ≤ s.size := by
  have := (esc_bd (s.data.toList.drop (k + 1))).2.2.2.1
  simp at this; omega

set_option maxHeartbeats 4000000 in
theorem ref_text (s : ByteArray) (a : Nat) (w : World) (hs : s.size ≤ 140737488355328) (ha : a < s.size) :
    Calls Try.prog 57 #[.string s, .int .i64 a] w (TextPost (qtA (s.size - a) (s.data.toList.drop (a + 1)) [] 1) w) := by
  generalize hQ : qtA (s.size - a) (s.data.toList.drop (a + 1)) [] 1 = Q
  have HQ := Lib.hid hQ; clear hQ
  go_enter Try.func57, Try.ntmps57
  go_wp2_with fail
  go_loopg [7, 8] (s.size - a) (fun f x y wr => TRel s a Q w f x y wr)
  case atStart => exact ⟨a + 1, [], by omega, by omega, by omega, by simp, rfl, by rw [show a + 1 - a = 1 from by omega]; exact HQ.out, World.ownsRow_nil _ _ _ _, Below.refl _ _⟩
  case round =>
    obtain ⟨k, acc, hk1, hk, hf, hacc, rfl, hB, hown, hbel⟩ := hrel
    have HB := Lib.hid hB; clear hB
    obtain ⟨ao, cap, rfl⟩ := bytes_shape hown
    by_cases hlt : k < s.size
    · obtain ⟨f, rfl⟩ : ∃ f', gk = f' + 1 := ⟨gk - 1, by omega⟩
      have hE2 : Hid (Q = if s[k].toNat = 34 then (acc, k - a + 1, 0) else if s[k].toNat = 10 then ([], 0, 21) else if s[k].toNat = 92 then
          (if (esc (s.data.toList.drop (k + 1))).2.2 ≠ 0 then ([], 0, (esc (s.data.toList.drop (k + 1))).2.2) else qtA f ((s.data.toList.drop (k + 1)).drop (esc (s.data.toList.drop (k + 1))).2.1) (acc ++ [(esc (s.data.toList.drop (k + 1))).1.toNat.toUInt8]) (k - a + (esc (s.data.toList.drop (k + 1))).2.1 + 1))
          else qtA f (s.data.toList.drop (k + 1)) (acc ++ [s[k]]) (k - a + 1)) := by
        show _ = _
        rw [← HB.out, drop_cons s k hlt]; rfl
      have hbs := hbel.size
      by_cases h34 : s[k].toNat = 34
      · have h34' : ((s[k].toNat : Int) == 34) = true := by simp [h34]
        have h10' : ((s[k].toNat : Int) != 10) = true := by simp [h34]
        have hR := Lib.hid (show Q = (acc, k - a + 1, 0) from by rw [hE2.out, if_pos h34])
        have hcv := bytes_conv hown
        clear h34
        go_wp2_with fail
        go_ret3
        exact ⟨by rw [hR.out]; simp; omega, hbel⟩
      · have h34' : ((s[k].toNat : Int) == 34) = false := by simp; omega
        by_cases h10 : s[k].toNat = 10
        · have h10' : ((s[k].toNat : Int) != 10) = false := by simp [h10]
          have hR := Lib.hid (show Q = ([], 0, 21) from by rw [hE2.out, if_neg h34, if_pos h10])
          clear h10 h34
          go_wp2_with fail
          go_ret3
          exact ⟨by rw [hR.out]; rfl, hbel⟩
        · have h10' : ((s[k].toNat : Int) != 10) = true := by simp; omega
          by_cases h92 : s[k].toNat = 92
          · have h92' : ((s[k].toNat : Int) != 92) = false := by simp [h92]
            have hee := esc_bd (s.data.toList.drop (k + 1))
            have hel := esc_len s k hlt
            have hesc := fun wx => ref_escape s k wx hs hlt
            have hR := Lib.hid (show Q = (if (esc (s.data.toList.drop (k + 1))).2.2 ≠ 0 then ([], 0, (esc (s.data.toList.drop (k + 1))).2.2) else qtA f ((s.data.toList.drop (k + 1)).drop (esc (s.data.toList.drop (k + 1))).2.1) (acc ++ [(esc (s.data.toList.drop (k + 1))).1.toNat.toUInt8]) (k - a + (esc (s.data.toList.drop (k + 1))).2.1 + 1)) from by rw [hE2.out, if_neg h34, if_neg h10, if_pos h92])
            clear hE2 h92 h10 h34
            generalize esc (s.data.toList.drop (k + 1)) = E at hee hesc hR hel
            obtain ⟨ev, en, ee⟩ := E
            obtain ⟨g1, g2, g3, g4, g5, g6, g7⟩ := hee
            simp only [List.length_drop] at g1 g2 g3 g4 g5 g6 g7 hesc hR hel
            unfold escR at hesc
            simp only at hesc
            clear g4
            by_cases hz : ee = 0
            · subst hz
              have g5' := Lib.hid (g5 rfl); clear g5
              simp only [if_true] at hesc
              have HS := Lib.hid hesc; clear hesc
              obtain ⟨i0, hi, hz0, hz1, hz2⟩ := info_parts infoByte
              go_wp2_with (first | (go_at_call 68; refine (HS.out _).mono ?_; rintro e w1 ⟨rfl, nd, rfl⟩) | (at_builtin; refine wpList_append_own _ rfl _ _ 46 rfl w.heap.size 5 i0 (.int .u8 0) 1 1 Try.underlying46 hi hz0 hz1 hz2 rfl (by decide) _ _ _ rfl (by exact World.ownsRow.alloc hown _) ⟨wr.heap.size, 0, none⟩ 1 1 [.int .u8 ev] rfl rfl ?c1 ?c2 ?c3 ?c4 ?c5 ?_))
              case c1 => exact new_cells _ _ _ _ rfl _ rfl
              case c2 => intro u hu; simp at hu; subst hu; rfl
              case c3 => unfold maxLen; omega
              case c4 => omega
              case c5 => simp; omega
              intro v' w3 hown' hgrow _
              have hb3 : Below w.heap.size w w3 := ((below_drewN hbel nd).alloc (by simpa using hbs) _).grown hgrow (by simp; omega) (fun g hg => by have := (hown.lt g hg).1; omega)
              rw [byteCells_snoc acc ev g1 g2] at hown'
              clear hgrow
              obtain ⟨ao', cap', rfl⟩ := bytes_shape hown'
              go_wp2_with fail
              go_roundg f
              case measure => omega
              case rel => exact ⟨k + (en + 1), acc ++ [ev.toNat.toUInt8], by omega, by omega, by omega, by simp; omega, by go_num, by have := hR.out; rw [if_neg (by simp), List.drop_drop] at this; rw [this, show k + 1 + en = k + (en + 1) from by omega, show k - a + en + 1 = k + (en + 1) - a from by omega], by simpa using hown', hb3⟩
            · have hz' : (ee != 0) = true := by simpa using hz
              have HR := Lib.hid (show Q = ([], 0, ee) from by rw [hR.out, if_pos hz])
              rw [if_neg hz] at hesc
              have HS := Lib.hid hesc; clear hesc
              clear hz g5
              go_wp2_with (first | (go_at_call 68; refine (HS.out _).mono ?_; rintro e w1 ⟨rfl, nd, rfl⟩))
              go_ret3
              exact ⟨by rw [HR.out]; rfl, below_drewN hbel _⟩
          · have h92' : ((s[k].toNat : Int) != 92) = true := by simp; omega
            have hR := Lib.hid (show Q = qtA f (s.data.toList.drop (k + 1)) (acc ++ [s[k]]) (k - a + 1) from by rw [hE2.out, if_neg h34, if_neg h10, if_neg h92])
            clear hE2 h92 h10 h34
            obtain ⟨i0, hi, hz0, hz1, hz2⟩ := info_parts infoByte
            go_wp2_with (at_builtin; refine wpList_append_own _ rfl _ _ 46 rfl w.heap.size 5 i0 (.int .u8 0) 1 1 Try.underlying46 hi hz0 hz1 hz2 rfl (by decide) _ _ _ rfl (by exact World.ownsRow.alloc hown _) ⟨wr.heap.size, 0, none⟩ 1 1 [.int .u8 s[k].toNat] rfl rfl ?c1 ?c2 ?c3 ?c4 ?c5 ?_)
            case c1 => exact new_cells _ _ _ _ rfl _ rfl
            case c2 => intro u hu; simp at hu; subst hu; rfl
            case c3 => unfold maxLen; omega
            case c4 => omega
            case c5 => simp; omega
            intro v' w3 hown' hgrow _
            have hb3 : Below w.heap.size w w3 := (hbel.alloc hbs _).grown hgrow (by simp; omega) (fun g hg => by have := (hown.lt g hg).1; omega)
            have hown2 : w3.ownsRow w.heap.size 5 1 v' (acc.length + 1) (Lib.byteCells (acc ++ [s[k]])) := by simpa [Lib.byteCells] using hown'
            clear hgrow hown'
            obtain ⟨ao', cap', rfl⟩ := bytes_shape hown2
            go_wp2_with fail
            go_roundg f
            case measure => omega
            case rel => exact ⟨k + 1, acc ++ [s[k]], by omega, by omega, by omega, by simp; omega, by go_num, by rw [hR.out, show k - a + 1 = k + 1 - a from by omega], by simpa using hown2, hb3⟩
    · have hR := Lib.hid (show Q = ([], 0, 21) from by rw [← HB.out, drop_end s k (by omega)]; cases gk <;> rfl)
      go_wp2_with fail
      go_ret3
      exact ⟨by rw [hR.out]; rfl, hbel⟩
end Go.Proofs.Ytdigoicdgeebhaa
