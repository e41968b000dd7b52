/- Contracts of bringupgrow: Cells. -/
import Derived.Test.YtjfkjnakmmkkiaaAdrF
import Derived.Laws.IdiomStrings
namespace Go.Proofs.Ytjfkjnakmmkkiaa
open Go.RowKit

theorem infoByte : (Try.prog.info? 5).map (fun i => (i.zero, i.size, i.bytes)) = some (some (.int .u8 0), 1, 1) := by kernel_rfl
/-- A row of bytes of the call's own, as a string. -/
theorem bytes_conv {w : World} {base : Nat} {v : Value} {acc : List UInt8} (h : w.ownsRow base 5 1 v acc.length (Lib.byteCells acc)) :
    (convert 77 9 v).run Try.prog w = .ok (.string ⟨acc.toArray⟩) w := by
  rcases h.2 with ⟨rfl, h0⟩ | ⟨g, cap, cur, rfl, hb, hh, hcap, hr⟩
  · have : acc = [] := List.eq_nil_of_length_eq_zero h0
    subst this
    exact run_convert_bytes_nil w _ _ Try.underlying77 Try.underlying5 0 0 _ Try.underlying9
  · refine run_convert_bytes_back w _ _ _ ⟨g, 0, none⟩ cap acc Try.underlying77 Try.underlying5 Try.underlying9 ?_
    intro j hj
    exact h.cells (g := g) rfl j _ (by simp [Lib.byteCells, hj])
theorem bytes_shape {w : World} {base : Nat} {e : TypeId} {v : Value} {n : Nat} {xs : List Value} (h : w.ownsRow base e 1 v n xs) : ∃ a cap, v = .slice a n cap := by
  rcases h.2 with ⟨rfl, rfl⟩ | ⟨g, cap, cur, rfl, _⟩
  · exact ⟨none, 0, rfl⟩
  · exact ⟨_, cap, rfl⟩
/-- The four bytes of a cell, the most significant one first. -/
def bytes4 (n : Int) : List UInt8 := [UInt8.ofNat (n / 16777216).toNat, UInt8.ofNat (n / 65536 % 256).toNat, UInt8.ofNat (n / 256 % 256).toNat, UInt8.ofNat (n % 256).toNat]
theorem u8_toNat {n : Int} (h0 : 0 ≤ n) (h1 : n ≤ 255) : ((UInt8.ofNat n.toNat).toNat : Int) = n := by
  rw [UInt8.toNat_ofNat', Nat.mod_eq_of_lt (by omega)]; omega
theorem bytes4_cells (n : Int) (h0 : 0 ≤ n) (h1 : n ≤ 4294967295) : Lib.byteCells (bytes4 n) = [.int .u8 (n / 16777216), .int .u8 (n / 65536 % 256), .int .u8 (n / 256 % 256), .int .u8 (n % 256)] := by
  have a := u8_toNat (n := n / 16777216) (by omega) (by omega)
  have b := u8_toNat (n := n / 65536 % 256) (by omega) (by omega)
  have c := u8_toNat (n := n / 256 % 256) (by omega) (by omega)
  have d := u8_toNat (n := n % 256) (by omega) (by omega)
  unfold bytes4 Lib.byteCells
  simp only [List.map_cons, List.map_nil, a, b, c, d]
def growT (l : List Int) : List UInt8 := l.flatMap bytes4

set_option maxRecDepth 100000 in
set_option maxHeartbeats 2000000 in
theorem grow_Cells (l : List Int) (v : Value) (w : World) (hl : ListAt w.heap.size w v l) (hr : ∀ x ∈ l, 0 ≤ x ∧ x ≤ 4294967295) (hlen : l.length ≤ 1000) :
    Calls Try.prog 20 #[v] w fun e w' => e = .returned (.string ⟨(growT l).toArray⟩) ∧ Below w.heap.size w w' := by
  obtain ⟨a, cap, rfl, hc1, hc2, hat⟩ := hl
  have HA := Lib.hid hat; clear hat
  have HR := Lib.hid hr; clear hr
  go_enter Try.func20, Try.ntmps20
  go_wp2_with fail
  go_loopg [3, 8] (l.length) (fun f x y wr => ∃ (k : Nat) (acc : List UInt8), y = .int .i64 k ∧ k ≤ l.length ∧ l.length ≤ k + f ∧ Hid (growT l = acc ++ growT (l.drop k)) ∧ Hid (acc.length = 4 * k) ∧
    wr.ownsRow w.heap.size 5 1 x acc.length (Lib.byteCells acc) ∧ Below w.heap.size w wr)
  case atStart => exact ⟨0, [], rfl, by omega, by omega, rfl, rfl, World.ownsRow_nil _ _ _ _, Below.refl _ _⟩
  case round =>
    obtain ⟨k, acc, rfl, hk1, hk2, hA, hAL, hown, hb⟩ := hrel
    have hbs := hb.size
    by_cases hlt : k < l.length
    · obtain ⟨g, o, rfl, hg, hcell⟩ := HA.out (by omega)
      have hx := HR.out l[k] (List.getElem_mem hlt)
      have c0 := cell_new (hcell k hlt) hg hb
      have hstep := Lib.hid (show growT (l.drop k) = bytes4 l[k] ++ growT (l.drop (k + 1)) from by
        rw [List.drop_eq_getElem_cons hlt]; rfl)
      have g0 : (k : Int) < (l.length : Int) := by omega
      clear hcell
      generalize l[k] = n at hx c0 hstep
      obtain ⟨hx0, hx1⟩ := hx

      obtain ⟨ao, co, rfl⟩ := bytes_shape hown
      have i0' : (0 : Int) ≤ k := by omega
      obtain ⟨i0, hi, hz0, hz1, hz2⟩ := info_parts infoByte
      have hAL2 := hAL.out
      have HK := Lib.hid hAL2
      have hal : acc.length ≤ 4000 := by omega
      clear hAL2
      go_wp2_with (at_builtin; refine wpList_append_own _ rfl _ _ 77 rfl w.heap.size 5 i0 (.int .u8 0) 1 1 Try.underlying77 hi hz0 hz1 hz2 rfl (by decide) _ _ _ rfl (by exact World.ownsRow.alloc hown _) ⟨wr.heap.size, 0, none⟩ 4 4 [.int .u8 (n / 16777216), .int .u8 (n / 65536 % 256), .int .u8 (n / 256 % 256), .int .u8 (n % 256)] rfl rfl ?c1 ?c2 ?c3 ?c4 ?c5 ?_)
      case c1 => exact new_cells _ _ _ _ rfl _ rfl
      case c2 => intro u hu; simp at hu; rcases hu with rfl | rfl | rfl | rfl <;> rfl
      case c3 => unfold maxLen; omega
      case c4 => omega
      case c5 => simp; omega
      intro v' w3 hown' hgrow _
      have hb3 : Below w.heap.size w w3 := (hb.alloc hbs _).grown hgrow (by simp; omega) (fun g hg => by have := (hown.lt g hg).1; omega)
      have hown2 : w3.ownsRow w.heap.size 5 1 v' (acc ++ bytes4 n).length (Lib.byteCells (acc ++ bytes4 n)) := by
        have e := bytes4_cells n hx0 hx1
        have e2 : Lib.byteCells (acc ++ bytes4 n) = Lib.byteCells acc ++ Lib.byteCells (bytes4 n) := by simp [Lib.byteCells]
        rw [e2, e, List.length_append, show (bytes4 n).length = 4 from rfl]
        exact hown'
      clear hgrow hown'
      obtain ⟨ao', cap', rfl⟩ := bytes_shape hown2
      go_wp2_with fail
      go_roundg (gk - 1)
      case measure => omega
      case rel =>
        refine ⟨k + 1, acc ++ bytes4 n, by go_num, by omega, by omega, ?_, ?_, hown2, hb3⟩
        · show _ = _
          rw [hA.out, hstep.out]; simp
        · show _ = _
          rw [List.length_append, HK.out, show (bytes4 n).length = 4 from rfl]; omega
    · have hfin := Lib.hid (show growT l = acc from by rw [hA.out, List.drop_eq_nil_of_le (by omega)]; simp [growT])
      have hcv := bytes_conv hown
      obtain ⟨ao, co, rfl⟩ := bytes_shape hown
      go_wp2_with fail
      go_ret
      exact ⟨by rw [hfin.out]; rfl, hb⟩
end Go.Proofs.Ytjfkjnakmmkkiaa
