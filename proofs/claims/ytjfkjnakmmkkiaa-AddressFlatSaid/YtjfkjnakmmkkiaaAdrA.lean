/- Contracts of print: the numbers of a value. -/
import Derived.Test.YtjfkjnakmmkkiaaTreG
import Derived.Test.YtjfkjnakmmkkiaaBitS
import Derived.Deep.RegionLaw
import Derived.Deep.AppendLies
import Derived.Deep.RegionHeld3
namespace Go.Proofs.Ytjfkjnakmmkkiaa
open Go.RowKit

def cellsF : List UInt8 → List Int
  | a :: b :: c :: d :: r => wordT a b c d :: cellsF r
  | _ => []
def cellsOkB (s : ByteArray) : Bool := decide (s.size ≠ 0) && decide (s.size % 4 = 0)
def cellsT (s : ByteArray) : List Int := if cellsOkB s = true then cellsF s.data.toList else []
def intCells (l : List Int) : List Value := l.map (Value.int .i64)
theorem drop_one (s : ByteArray) (k : Nat) (h : k < s.size) : s.data.toList.drop k = s[k] :: s.data.toList.drop (k + 1) := drop_cons s k h
theorem cellsF_step (z : ByteArray) (h : 4 ≤ z.size) : cellsF z.data.toList = wordT (z[0]'(by omega)) (z[1]'(by omega)) (z[2]'(by omega)) (z[3]'(by omega)) :: cellsF (z.data.toList.drop 4) := by
  have e0 := drop_cons z 0 (by omega)
  rw [List.drop_zero] at e0
  rw [e0, drop_cons z 1 (by omega), drop_cons z 2 (by omega), drop_cons z 3 (by omega)]
  rfl
theorem toList_nil_size (s : ByteArray) : s.toList = [] ↔ s.size = 0 := by
  rw [ByteArray.toList_eq]
  constructor
  · intro h; have := congrArg List.length h; simpa using this
  · intro h; exact List.eq_nil_of_length_eq_zero (by simpa using h)
theorem infoInt : (Try.prog.info? 3).map (fun i => (i.zero, i.size, i.bytes)) = some (some (.int .i64 0), 1, 8) := by kernel_rfl
def CellsPost (s : ByteArray) (w : World) (e : Ending) (w' : World) : Prop :=
  ∃ v, e = .returned (.tuple #[v, .bool (cellsOkB s)]) ∧ w'.ownsRow w.heap.size 3 1 v (cellsT s).length (intCells (cellsT s)) ∧ Below w.heap.size w w'
theorem owns_slice {w : World} {base : Nat} {e : TypeId} {size : Nat} {v : Value} {n : Nat} {xs : List Value} (h : w.ownsRow base e size v n xs) : ∃ a cap, v = .slice a n cap := by
  rcases h.2 with ⟨rfl, rfl⟩ | ⟨g, cap, cur, rfl, _⟩
  · exact ⟨none, 0, rfl⟩
  · exact ⟨_, _, rfl⟩

set_option maxRecDepth 100000 in
set_option maxHeartbeats 4000000 in
theorem print_Cells (s : ByteArray) (w : World) (hs : s.size ≤ 9223372036854775807) (hs2 : s.size ≤ 1000000) :
    Calls Try.prog 114 #[.string s] w (CellsPost s w) := by
  by_cases h0 : s.size = 0
  · have hne : s.toList = [] := (toList_nil_size s).2 h0
    have hC := Lib.hid (show cellsOkB s = false from by unfold cellsOkB; simp [h0])
    clear h0
    go_enter Try.func114, Try.ntmps114
    go_wp2_with fail
    go_ret2
    exact ⟨.slice none 0 0, by rw [hC.out]; rfl, by unfold cellsT; rw [hC.out]; exact World.ownsRow_nil _ _ _ _, Below.refl _ _⟩
  · have hne : ¬ s.toList = [] := fun e => h0 ((toList_nil_size s).1 e)
    have hne2 : s.toList.isEmpty = false := by simpa using hne
    by_cases h4 : s.size % 4 = 0
    · have hmod : (((s.size : Int) % 4) != 0) = false := by simp; omega
      have hC := Lib.hid (show cellsOkB s = true from by unfold cellsOkB; simp [h0, h4])
      have hT := Lib.hid (show cellsT s = cellsF s.data.toList from by unfold cellsT; rw [hC.out, if_pos rfl])
      obtain ⟨i0, hi, hz0, hz1, hz2⟩ := info_parts infoInt
      clear h0
      go_enter Try.func114, Try.ntmps114
      go_wp2_with fail
      clear hne hne2 hmod
      go_loopg [0, 4] (s.size) (fun f x y wr => ∃ (l : List Int) (z : ByteArray), x = .string z ∧ z.size % 4 = 0 ∧ z.size ≤ f ∧ l.length * 4 + z.size = s.size ∧ Hid (cellsF s.data.toList = l ++ cellsF z.data.toList) ∧
        wr.ownsRow w.heap.size 3 1 y l.length (intCells l) ∧ Below w.heap.size w wr)
      case atStart => exact ⟨[], s, rfl, h4, by omega, by simp, rfl, World.ownsRow_nil _ _ _ _, Below.refl _ _⟩
      case round =>
        obtain ⟨l, z, rfl, hz4, hzf, hlz, hH, hown, hb⟩ := hrel
        have hbs := hb.size
        by_cases hz : z.size = 0
        · have zne : z.toList = [] := (toList_nil_size z).2 hz
          have hfin := Lib.hid (show cellsT s = l from by
            rw [hT.out, hH.out, show z.data.toList = [] from by rw [← ByteArray.toList_eq]; exact zne]; simp [cellsF])
          obtain ⟨ao, co, rfl⟩ := owns_slice hown
          clear hz hH
          go_wp2_with fail
          go_ret2
          exact ⟨_, by rw [hC.out]; rfl, by rw [hfin.out]; exact hown, hb⟩
        · have z4 : 4 ≤ z.size := by omega
          have zne : ¬ z.toList = [] := fun e => hz ((toList_nil_size z).1 e)
          have zne2 : z.toList.isEmpty = false := by simpa using zne
          have q0 : 0 < z.size := by omega
          have q1 : 1 < z.size := by omega
          have q2 : 2 < z.size := by omega
          have q3 : 3 < z.size := by omega
          have i0' : (0 : Int) < (z.size : Int) := by omega
          have i1' : (1 : Int) < (z.size : Int) := by omega
          have i2' : (2 : Int) < (z.size : Int) := by omega
          have i3' : (3 : Int) < (z.size : Int) := by omega
          have i4' : (4 : Int) ≤ (z.size : Int) := by omega
          have hstep := Lib.hid (cellsF_step z z4)
          have hex : (z.extract 4 z.size).size = z.size - 4 := by simp
          have HEX := Lib.hid hex; clear hex
          have hdat := Lib.hid (drop_data z 4)
          have hlen : l.length ≤ 1000000 := by omega
          have wb0 := wrap_byte z[0]
          have wb1 := wrap_byte z[1]
          have wb2 := wrap_byte z[2]
          have wb3 := wrap_byte z[3]
          have wm0 := wrap_mul z[0] 16777216 (by omega)
          have wm1 := wrap_mul z[1] 65536 (by omega)
          have wm2 := wrap_mul z[2] 256 (by omega)
          rw [show (((16777216 : Nat)) : Int) = 16777216 from rfl] at wm0
          rw [show (((65536 : Nat)) : Int) = 65536 from rfl] at wm1
          rw [show (((256 : Nat)) : Int) = 256 from rfl] at wm2
          have hor := word_or z[0] z[1] z[2] z[3]
          generalize wordT z[0] z[1] z[2] z[3] = W at hor hstep
          have b1 : l.length + 1 ≤ maxLen := by unfold maxLen; omega
          have b2 : (l.length + 1) * 8 ≤ 140737488355328 := by omega
          clear hz
          go_wp2_with fail
          go_region_held3 (fun wx => Below w.heap.size w wx) (first | exact hb.drew | exact hb.drew.alloc hbs _ | exact (hb.drew.alloc hbs _).grown hgrow (by simp; omega) (fun g hg => (hown.lt g hg).1))
            ((refine step_append_lies _ (by rfl) _ _ _ (by rfl) w.heap.size 3 i0 _ 1 8 Try.underlying22 hi hz0 hz1 hz2 rfl (by omega) _ l.length (intCells l) (by rfl) ((hown.alloc _).drew)
                ⟨wr.heap.size, 0, none⟩ 1 1 [.int .i64 W] (by rfl) (by rfl) (World.news_of_block (cs := #[.int .i64 W]) (t := 3) (fr := (0, 0)) (heap_alloc_new wr _)) (by simp [Value.oneCell']) (by omega) b1 b2 (by simp; omega) (wr.heap.size + 1) (by simp) ?_; intro gg cap w1 hown1 hgrow hat hlt))
          all_goals
            rename_i hS
            clear wb0 wb1 wb2 wb3 wm0 wm1 wm2 hor
            go_wp2_with fail
            go_roundg (gk - 1)
            case measure => omega
            case rel =>
              have hx := HEX.out
              refine ⟨l ++ [W], z.extract 4 z.size, rfl, by omega, by omega, by simp; omega, ?_, ?_, hS⟩
              · show _ = _
                rw [hH.out, hstep.out, hdat.out]; simp
              · simpa [intCells] using hown1
    · have hmod : (((s.size : Int) % 4) != 0) = true := by simp; omega
      have hC := Lib.hid (show cellsOkB s = false from by unfold cellsOkB; simp [h4])
      clear h0 h4
      go_enter Try.func114, Try.ntmps114
      go_wp2_with fail
      go_ret2
      exact ⟨.slice none 0 0, by rw [hC.out]; rfl, by unfold cellsT; rw [hC.out]; exact World.ownsRow_nil _ _ _ _, Below.refl _ _⟩
end Go.Proofs.Ytjfkjnakmmkkiaa
