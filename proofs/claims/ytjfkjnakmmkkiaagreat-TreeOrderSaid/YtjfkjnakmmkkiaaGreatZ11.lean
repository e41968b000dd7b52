/- Contracts of print: the numbers of a value. | Contracts of address: count, cells. | address.rows: rows of numbers. | The contract of rows of address. -/
import Derived.Test.YtjfkjnakmmkkiaaGreatZ9
import Derived.Test.YtjfkjnakmmkkiaaGreatZ10
import Derived.Deep.RegionLaw
import Derived.Deep.AppendLies
import Derived.Deep.RegionHeld3

namespace Go.Proofs.YtjfkjnakmmkkiaaGreat
open Go.RowKit

def cellsF : List UInt8 → List Int
  | a :: b :: c :: d :: r => wordT a b c d :: cellsF r
  | _ => []
def cellsOkB (s : ByteArray) : Bool := decide (s.size ≠ 0) && decide (s.size % 4 = 0)
def cellsT (s : ByteArray) : List Int := if cellsOkB s = true then cellsF s.data.toList else []
def intCells (l : List Int) : List Value := l.map (Value.int .i64)
theorem drop_one (s : ByteArray) (k : Nat) (h : k < s.size) : s.data.toList.drop k = s[k] :: s.data.toList.drop (k + 1) := drop_cons s k h
theorem cellsF_step (z : ByteArray) (h : 4 ≤ z.size) : cellsF z.data.toList = wordT (z[0]'(by omega)) (z[1]'(by omega)) (z[2]'(by omega)) (z[3]'(by omega)) :: cellsF (z.data.toList.drop 4) := by
  have e0 := drop_cons z 0 (by omega)
  rw [List.drop_zero] at e0
  rw [e0, drop_cons z 1 (by omega), drop_cons z 2 (by omega), drop_cons z 3 (by omega)]
  rfl
theorem toList_nil_size (s : ByteArray) : s.toList = [] ↔ s.size = 0 := by
  rw [ByteArray.toList_eq]
  constructor
  · intro h; have := congrArg List.length h; simpa using this
  · intro h; exact List.eq_nil_of_length_eq_zero (by simpa using h)
theorem infoInt : (Tryz.prog.info? 3).map (fun i => (i.zero, i.size, i.bytes)) = some (some (.int .i64 0), 1, 8) := by kernel_rfl
def CellsPost (s : ByteArray) (w : World) (e : Ending) (w' : World) : Prop :=
  ∃ v, e = .returned (.tuple #[v, .bool (cellsOkB s)]) ∧ w'.ownsRow w.heap.size 3 1 v (cellsT s).length (intCells (cellsT s)) ∧ Below w.heap.size w w'
theorem owns_slice {w : World} {base : Nat} {e : TypeId} {size : Nat} {v : Value} {n : Nat} {xs : List Value} (h : w.ownsRow base e size v n xs) : ∃ a cap, v = .slice a n cap := by
  rcases h.2 with ⟨rfl, rfl⟩ | ⟨g, cap, cur, rfl, _⟩
  · exact ⟨none, 0, rfl⟩
  · exact ⟨_, _, rfl⟩

set_option maxRecDepth 100000 in
set_option maxHeartbeats 4000000 in
theorem print_Cells (s : ByteArray) (w : World) (hs : s.size ≤ 9223372036854775807) (hs2 : s.size ≤ 1000000) :
    Calls Tryz.prog 144 #[.string s] w (CellsPost s w) := by
  by_cases h0 : s.size = 0
  · have hne : s.toList = [] := (toList_nil_size s).2 h0
    have hC := Lib.hid (show cellsOkB s = false from by unfold cellsOkB; simp [h0])
    clear h0
    go_enter Tryz.func144, Tryz.ntmps144
    go_wp2_with fail
    go_ret2
    exact ⟨.slice none 0 0, by rw [hC.out]; rfl, by unfold cellsT; rw [hC.out]; exact World.ownsRow_nil _ _ _ _, Below.refl _ _⟩
  · have hne : ¬ s.toList = [] := fun e => h0 ((toList_nil_size s).1 e)
    have hne2 : s.toList.isEmpty = false := by simpa using hne
    by_cases h4 : s.size % 4 = 0
    · have hmod : (((s.size : Int) % 4) != 0) = false := by simp; omega
      have hC := Lib.hid (show cellsOkB s = true from by unfold cellsOkB; simp [h0, h4])
      have hT := Lib.hid (show cellsT s = cellsF s.data.toList from by unfold cellsT; rw [hC.out, if_pos rfl])
      obtain ⟨i0, hi, hz0, hz1, hz2⟩ := info_parts infoInt
      clear h0
      go_enter Tryz.func144, Tryz.ntmps144
      go_wp2_with fail
      clear hne hne2 hmod
      go_loopg [0, 4] (s.size) (fun f x y wr => ∃ (l : List Int) (z : ByteArray), x = .string z ∧ z.size % 4 = 0 ∧ z.size ≤ f ∧ l.length * 4 + z.size = s.size ∧ Hid (cellsF s.data.toList = l ++ cellsF z.data.toList) ∧
        wr.ownsRow w.heap.size 3 1 y l.length (intCells l) ∧ Below w.heap.size w wr)
      case atStart => exact ⟨[], s, rfl, h4, by omega, by simp, rfl, World.ownsRow_nil _ _ _ _, Below.refl _ _⟩
      case round =>
        obtain ⟨l, z, rfl, hz4, hzf, hlz, hH, hown, hb⟩ := hrel
        have hbs := hb.size
        by_cases hz : z.size = 0
        · have zne : z.toList = [] := (toList_nil_size z).2 hz
          have hfin := Lib.hid (show cellsT s = l from by
            rw [hT.out, hH.out, show z.data.toList = [] from by rw [← ByteArray.toList_eq]; exact zne]; simp [cellsF])
          obtain ⟨ao, co, rfl⟩ := owns_slice hown
          clear hz hH
          go_wp2_with fail
          go_ret2
          exact ⟨_, by rw [hC.out]; rfl, by rw [hfin.out]; exact hown, hb⟩
        · have z4 : 4 ≤ z.size := by omega
          have zne : ¬ z.toList = [] := fun e => hz ((toList_nil_size z).1 e)
          have zne2 : z.toList.isEmpty = false := by simpa using zne
          have q0 : 0 < z.size := by omega
          have q1 : 1 < z.size := by omega
          have q2 : 2 < z.size := by omega
          have q3 : 3 < z.size := by omega
          have i0' : (0 : Int) < (z.size : Int) := by omega
          have i1' : (1 : Int) < (z.size : Int) := by omega
          have i2' : (2 : Int) < (z.size : Int) := by omega
          have i3' : (3 : Int) < (z.size : Int) := by omega
          have i4' : (4 : Int) ≤ (z.size : Int) := by omega
          have hstep := Lib.hid (cellsF_step z z4)
          have hex : (z.extract 4 z.size).size = z.size - 4 := by simp
          have HEX := Lib.hid hex; clear hex
          have hdat := Lib.hid (drop_data z 4)
          have hlen : l.length ≤ 1000000 := by omega
          have wb0 := wrap_byte z[0]
          have wb1 := wrap_byte z[1]
          have wb2 := wrap_byte z[2]
          have wb3 := wrap_byte z[3]
          have wm0 := wrap_mul z[0] 16777216 (by omega)
          have wm1 := wrap_mul z[1] 65536 (by omega)
          have wm2 := wrap_mul z[2] 256 (by omega)
          rw [show (((16777216 : Nat)) : Int) = 16777216 from rfl] at wm0
          rw [show (((65536 : Nat)) : Int) = 65536 from rfl] at wm1
          rw [show (((256 : Nat)) : Int) = 256 from rfl] at wm2
          have hor := word_or z[0] z[1] z[2] z[3]
          generalize wordT z[0] z[1] z[2] z[3] = W at hor hstep
          have b1 : l.length + 1 ≤ maxLen := by unfold maxLen; omega
          have b2 : (l.length + 1) * 8 ≤ 140737488355328 := by omega
          clear hz
          go_wp2_with fail
          go_region_held3 (fun wx => Below w.heap.size w wx) (first | exact hb.drew | exact hb.drew.alloc hbs _ | exact (hb.drew.alloc hbs _).grown hgrow (by simp; omega) (fun g hg => (hown.lt g hg).1))
            ((refine step_append_lies _ (by rfl) _ _ _ (by rfl) w.heap.size 3 i0 _ 1 8 Tryz.underlying22 hi hz0 hz1 hz2 rfl (by omega) _ l.length (intCells l) (by rfl) ((hown.alloc _).drew)
                ⟨wr.heap.size, 0, none⟩ 1 1 [.int .i64 W] (by rfl) (by rfl) (World.news_of_block (cs := #[.int .i64 W]) (t := 3) (fr := (0, 0)) (heap_alloc_new wr _)) (by simp [Value.oneCell']) (by omega) b1 b2 (by simp; omega) (wr.heap.size + 1) (by simp) ?_; intro gg cap w1 hown1 hgrow hat hlt))
          all_goals
            rename_i hS
            clear wb0 wb1 wb2 wb3 wm0 wm1 wm2 hor
            go_wp2_with fail
            go_roundg (gk - 1)
            case measure => omega
            case rel =>
              have hx := HEX.out
              refine ⟨l ++ [W], z.extract 4 z.size, rfl, by omega, by omega, by simp; omega, ?_, ?_, hS⟩
              · show _ = _
                rw [hH.out, hstep.out, hdat.out]; simp
              · simpa [intCells] using hown1
    · have hmod : (((s.size : Int) % 4) != 0) = true := by simp; omega
      have hC := Lib.hid (show cellsOkB s = false from by unfold cellsOkB; simp [h4])
      clear h0 h4
      go_enter Tryz.func144, Tryz.ntmps144
      go_wp2_with fail
      go_ret2
      exact ⟨.slice none 0 0, by rw [hC.out]; rfl, by unfold cellsT; rw [hC.out]; exact World.ownsRow_nil _ _ _ _, Below.refl _ _⟩
end Go.Proofs.YtjfkjnakmmkkiaaGreat

namespace Go.Proofs.YtjfkjnakmmkkiaaGreat
open Go.RowKit

theorem fit_value {T : List NodeT} (h : checkT T = 0) (n : NodeT) (hn : n ∈ T) (p : PropT) (hp : p ∈ n.props) : p.value.size ≤ 256 := by
  have := check_limits h
  unfold limitsT at this
  simp only [Bool.and_eq_true, List.all_eq_true] at this
  have := this.2 _ hn
  unfold fitB at this
  simp only [Bool.and_eq_true, List.all_eq_true, decide_eq_true_eq] at this
  exact this.2 p hp
theorem valueT_size (T : List NodeT) (node : Int) (x : ByteArray) : (valueT T node x).1.size ≤ 256 := by
  unfold valueT
  split
  · simp
  · rename_i h
    have hc : checkT T = 0 := Decidable.byContradiction (fun e => h (.inl e))
    split
    · simp
    · rename_i n hn
      split
      · split
        · rename_i p hp
          exact fit_value hc n (List.mem_of_getElem? hn) p (List.mem_of_getElem? hp)
        · simp
      · simp
/-- How many cells does a property say? -/
def countV (v : ByteArray × Bool) : Int × Bool :=
  if v.2 = false then (1, true) else if cellsOkB v.1 = false ∨ (cellsT v.1).length ≠ 1 ∨ (cellsT v.1).headD 0 < 1 ∨ 2 < (cellsT v.1).headD 0 then (0, false) else ((cellsT v.1).headD 0, true)
def countT (T : List NodeT) (node : Int) (x : ByteArray) : Int × Bool := countV (valueT T node x)
theorem cellsF_len : ∀ (n : Nat) (l : List UInt8), l.length ≤ n → (cellsF l).length * 4 ≤ l.length := by
  intro n
  induction n with
  | zero => intro l h; have : l = [] := List.length_eq_zero_iff.1 (by omega); subst this; simp [cellsF]
  | succ n ih =>
    intro l h
    match l with
    | [] => simp [cellsF]
    | [_] => simp [cellsF]
    | [_, _] => simp [cellsF]
    | [_, _, _] => simp [cellsF]
    | a :: b :: c :: d :: r =>
      have := ih r (by simp at h; omega)
      simp only [cellsF, List.length_cons] at *
      omega
theorem cellsT_len (s : ByteArray) : (cellsT s).length * 4 ≤ s.size := by
  unfold cellsT
  split
  · have := cellsF_len _ s.data.toList (Nat.le_refl _); simpa using this
  · simp
theorem ints_at {w : World} {base : Nat} {T : TypeId} {v : Value} {l : List Int} (h : w.ownsRow base T 1 v l.length (intCells l)) (hl : 0 < l.length) :
    ∃ g cap, v = .slice (some ⟨g, 0, none⟩) l.length cap ∧ l.length ≤ cap ∧ base ≤ g ∧ g < w.heap.size ∧ ∀ (i : Nat) (hi : i < l.length), w.cell? ⟨g, i, none⟩ = some (.int .i64 l[i]) := by
  rcases h.2 with ⟨_, h0⟩ | ⟨g, cap, cur, rfl, hb, hh, hcap, hr⟩
  · omega
  · refine ⟨g, cap, rfl, hcap, hb, lt_of_block hh, fun i hi => ?_⟩
    have hc := h.cells (g := g) rfl i (.int .i64 l[i]) (by simp [intCells, hi])
    have hadd : (⟨g, 0, none⟩ : Addr).add i = ⟨g, i, none⟩ := by unfold Addr.add; split <;> simp_all
    rwa [hadd] at hc

set_option maxHeartbeats 2000000 in
theorem address_count (R : Nat → Prop) (v : Value) (T : List NodeT) (node : Int) (x : ByteArray) (w : World) (hT : NodesIn R w v T) :
    Calls Tryz.prog 118 #[.agg #[v], .int .i64 node, .string x] w fun e w' => e = .returned (.tuple #[.int .i64 (countT T node x).1, .bool (countT T node x).2]) ∧ Below w.heap.size w w' := by
  obtain ⟨a, cap, rfl, hc1, hc2⟩ := hT.shape
  have HT := Lib.hid hT; clear hT
  have hv := fun wx hx => tree_Value R (.slice a T.length cap) T node x wx hx
  unfold ValuePost at hv
  have hsz := valueT_size T node x
  have hcd := Lib.hid (show countT T node x = countV (valueT T node x) from rfl)
  generalize valueT T node x = V at hv hsz hcd
  obtain ⟨vs, vb⟩ := V
  simp only at hv hsz
  have HV := Lib.hid hv; clear hv
  cases vb with
  | false =>
    have hC := Lib.hid (show countT T node x = (1, true) from by rw [hcd.out]; rfl)
    clear hcd
    go_enter Tryz.func118, Tryz.ntmps118
    go_wp2_with fail
    refine (HV.out _ (by exact HT.out.new ((Below.refl w.heap.size w).alloc (Nat.le_refl _) _))).mono ?_
    rintro e w' ⟨rfl, hb⟩
    go_wp2_with fail
    go_ret2
    exact ⟨by rw [hC.out]; rfl, ((Below.refl _ _).alloc (Nat.le_refl _) _).trans (hb.mono (by simp))⟩
  | true =>
    have hpc := fun wx => print_Cells vs wx (by omega) (by omega)
    unfold CellsPost at hpc
    have hcd2 := Lib.hid (show countT T node x = if cellsOkB vs = false ∨ (cellsT vs).length ≠ 1 ∨ (cellsT vs).headD 0 < 1 ∨ 2 < (cellsT vs).headD 0 then (0, false) else ((cellsT vs).headD 0, true) from by rw [hcd.out]; rfl)
    have hbig : (cellsT vs).length ≤ 1000 := by have := cellsT_len vs; omega
    clear hcd
    have hkb : cellsOkB vs = false → cellsT vs = [] := by intro h; unfold cellsT; rw [h]; rfl
    generalize cellsT vs = l at hpc hcd2 hbig hkb
    generalize cellsOkB vs = ok at hpc hcd2 hkb
    have HPC := Lib.hid hpc; clear hpc
    have HKB := Lib.hid hkb; clear hkb
    go_enter Tryz.func118, Tryz.ntmps118
    go_wp2_with fail
    refine (HV.out _ (by exact HT.out.new ((Below.refl w.heap.size w).alloc (Nat.le_refl _) _))).mono ?_
    rintro e w1 ⟨rfl, hb⟩
    have hb1 : Below w.heap.size w w1 := ((Below.refl _ _).alloc (Nat.le_refl _) _).trans (hb.mono (by simp))
    go_wp2_with fail
    refine (HPC.out _).mono ?_
    rintro e w2 ⟨lv, rfl, hown, hb2⟩
    have hb3 : Below w.heap.size w w2 := hb1.trans (hb2.mono hb1.size)
    obtain ⟨la, lc, rfl⟩ := owns_slice hown
    by_cases hok : ok = false
    · subst hok
      have hC := Lib.hid (show countT T node x = (0, false) from by rw [hcd2.out, if_pos (.inl rfl)])
      go_wp2_with fail
      go_ret2
      exact ⟨by rw [hC.out]; rfl, hb3⟩
    · have hok' : ok = true := by simpa using hok
      subst hok'
      clear hok
      by_cases h1 : l.length = 1
      · obtain ⟨g, cp, e1, hcp, hg1, hg2, hcell⟩ := ints_at hown (by omega)
        cases e1
        have c0 := hcell 0 (by omega)
        clear hcell
        obtain ⟨q, rfl⟩ : ∃ q, l = [q] := List.length_eq_one_iff.1 h1
        simp only [List.getElem_cons_zero] at c0
        simp only [List.length_cons, List.length_nil] at hcp
        clear h1 hown hbig
        by_cases hlo : q < 1
        · have hC := Lib.hid (show countT T node x = (0, false) from by rw [hcd2.out, if_pos (.inr (.inr (.inl (by simpa using hlo))))])
          go_wp2_with fail
          go_ret2
          exact ⟨by rw [hC.out]; rfl, hb3⟩
        · have hlo' : 1 ≤ q := by omega
          by_cases hhi : 2 < q
          · have hC := Lib.hid (show countT T node x = (0, false) from by rw [hcd2.out, if_pos (.inr (.inr (.inr (by simpa using hhi))))])
            go_wp2_with fail
            go_ret2
            exact ⟨by rw [hC.out]; rfl, hb3⟩
          · have hhi' : q ≤ 2 := by omega
            have hC := Lib.hid (show countT T node x = (q, true) from by
              rw [hcd2.out, if_neg (by rintro (h | h | h | h); cases h; exact h rfl; simp at h; omega; simp at h; omega)]; rfl)
            go_wp2_with fail
            go_ret2
            exact ⟨by rw [hC.out]; rfl, hb3⟩
      · have hlb : ((l.length : Int) != 1) = true := by rw [bne_iff_ne]; omega
        have hC := Lib.hid (show countT T node x = (0, false) from by rw [hcd2.out, if_pos (.inr (.inl h1))])
        clear h1
        go_wp2_with fail
        go_ret2
        exact ⟨by rw [hC.out]; rfl, hb3⟩

def nmAC : ByteArray := ⟨#[35, 97, 100, 100, 114, 101, 115, 115, 45, 99, 101, 108, 108, 115]⟩
def nmSC : ByteArray := ⟨#[35, 115, 105, 122, 101, 45, 99, 101, 108, 108, 115]⟩
/-- The numbers of cells of a node of a valid tree. -/
def pairT (T : List NodeT) (node : Int) : Int × Int × Int :=
  if (countT T node nmAC).2 = false ∨ (countT T node nmSC).2 = false then (0, 0, 26) else ((countT T node nmAC).1, (countT T node nmSC).1, 0)

set_option maxHeartbeats 2000000 in
theorem address_cells (R : Nat → Prop) (v : Value) (T : List NodeT) (node : Int) (w : World) (hT : NodesIn R w v T) :
    Calls Tryz.prog 76 #[.agg #[v], .int .i64 node] w fun e w' => e = .returned (.tuple #[.int .i64 (pairT T node).1, .int .i64 (pairT T node).2.1, .int .i64 (pairT T node).2.2]) ∧ Below w.heap.size w w' := by
  obtain ⟨a, cap, rfl, hc1, hc2⟩ := hT.shape
  have HT := Lib.hid hT; clear hT
  have h1 := fun wx hx => address_count R (.slice a T.length cap) T node nmAC wx hx
  have h2 := fun wx hx => address_count R (.slice a T.length cap) T node nmSC wx hx
  have hcd := Lib.hid (show pairT T node = if (countT T node nmAC).2 = false ∨ (countT T node nmSC).2 = false then (0, 0, 26) else ((countT T node nmAC).1, (countT T node nmSC).1, 0) from rfl)
  generalize countT T node nmAC = C1 at h1 hcd
  generalize countT T node nmSC = C2 at h2 hcd
  obtain ⟨y1, b1⟩ := C1
  obtain ⟨y2, b2⟩ := C2
  unfold nmAC at h1
  unfold nmSC at h2
  have H1 := Lib.hid h1; clear h1
  have H2 := Lib.hid h2; clear h2
  cases b1 with
  | false =>
    have hC := Lib.hid (show pairT T node = (0, 0, 26) from by rw [hcd.out, if_pos (.inl rfl)])
    go_enter Tryz.func76, Tryz.ntmps76
    go_wp2_with fail
    refine (H1.out _ (by exact HT.out.new ((Below.refl w.heap.size w).alloc (Nat.le_refl _) _))).mono ?_
    rintro e w1 ⟨rfl, hb⟩
    have hb1 : Below w.heap.size w w1 := ((Below.refl _ _).alloc (Nat.le_refl _) _).trans (hb.mono (by simp))
    have hB := (Holds.new w #[.slice a T.length cap] 25).keeps (Keeps.of_fresh hb (fun _ => False)) (fun e => e)
    have bx := hB.cell 0
    have blt := hB.lt
    go_wp2_with fail
    refine (H2.out _ (by exact HT.out.new hb1)).mono ?_
    rintro e w2 ⟨rfl, hb2⟩
    go_wp2_with fail
    go_ret3
    exact ⟨by rw [hC.out]; rfl, hb1.trans (hb2.mono hb1.size)⟩
  | true =>
    cases b2 with
    | false =>
      have hC := Lib.hid (show pairT T node = (0, 0, 26) from by rw [hcd.out, if_pos (.inr rfl)])
      go_enter Tryz.func76, Tryz.ntmps76
      go_wp2_with fail
      refine (H1.out _ (by exact HT.out.new ((Below.refl w.heap.size w).alloc (Nat.le_refl _) _))).mono ?_
      rintro e w1 ⟨rfl, hb⟩
      have hb1 : Below w.heap.size w w1 := ((Below.refl _ _).alloc (Nat.le_refl _) _).trans (hb.mono (by simp))
      have hB := (Holds.new w #[.slice a T.length cap] 25).keeps (Keeps.of_fresh hb (fun _ => False)) (fun e => e)
      have bx := hB.cell 0
      have blt := hB.lt
      go_wp2_with fail
      refine (H2.out _ (by exact HT.out.new hb1)).mono ?_
      rintro e w2 ⟨rfl, hb2⟩
      go_wp2_with fail
      go_ret3
      exact ⟨by rw [hC.out]; rfl, hb1.trans (hb2.mono hb1.size)⟩
    | true =>
      have hC := Lib.hid (show pairT T node = (y1, y2, 0) from by rw [hcd.out, if_neg (by simp)])
      go_enter Tryz.func76, Tryz.ntmps76
      go_wp2_with fail
      refine (H1.out _ (by exact HT.out.new ((Below.refl w.heap.size w).alloc (Nat.le_refl _) _))).mono ?_
      rintro e w1 ⟨rfl, hb⟩
      have hb1 : Below w.heap.size w w1 := ((Below.refl _ _).alloc (Nat.le_refl _) _).trans (hb.mono (by simp))
      have hB := (Holds.new w #[.slice a T.length cap] 25).keeps (Keeps.of_fresh hb (fun _ => False)) (fun e => e)
      have bx := hB.cell 0
      have blt := hB.lt
      go_wp2_with fail
      refine (H2.out _ (by exact HT.out.new hb1)).mono ?_
      rintro e w2 ⟨rfl, hb2⟩
      go_wp2_with fail
      go_ret3
      exact ⟨by rw [hC.out]; rfl, hb1.trans (hb2.mono hb1.size)⟩
end Go.Proofs.YtjfkjnakmmkkiaaGreat

namespace Go.Proofs.YtjfkjnakmmkkiaaGreat
open Go.RowKit

def rowF : List Int → List Int → Option (List Int × List Int)
  | [], l => some ([], l)
  | w :: ws, l =>
    if w = 2 then (if 1073741823 < l.headD 0 then none else (rowF ws (l.drop 2)).map fun q => ((l.headD 0 * 4294967296 + l.getD 1 0) :: q.1, q.2))
    else (rowF ws (l.drop 1)).map fun q => (l.headD 0 :: q.1, q.2)
def rowsF (ws : List Int) : Nat → List Int → Option (List (List Int))
  | 0, _ => some []
  | f + 1, l => if l = [] then some [] else (rowF ws l).bind fun q => (rowsF ws f q.2).map (q.1 :: ·)
def sumT (ws : List Int) : Int := ws.foldl (· + ·) 0
def rowsE (o : Option (List (List Int))) : List (List Int) × Int := match o with
  | none => ([], 2)
  | some rs => (rs, 0)
def rowsT (v : ByteArray) (ws : List Int) : List (List Int) × Int :=
  if (v.size : Int) % (4 * sumT ws) ≠ 0 then ([], 26) else rowsE (rowsF ws (cellsT v).length (cellsT v))
theorem sumT_snoc (ws : List Int) (x : Int) : sumT (ws ++ [x]) = sumT ws + x := by simp [sumT]
theorem sumT_cons (ws : List Int) (x : Int) : sumT (x :: ws) = x + sumT ws := by
  have key : ∀ (l : List Int) (a : Int), l.foldl (· + ·) a = a + l.foldl (· + ·) 0 := by
    intro l
    induction l with
    | nil => intro a; simp
    | cons y l ih => intro a; simp only [List.foldl_cons]; rw [ih (a + y), ih (0 + y)]; omega
  unfold sumT
  rw [List.foldl_cons, key]; omega
theorem cellsF_bd : ∀ (n : Nat) (l : List UInt8), l.length ≤ n → ∀ x ∈ cellsF l, 0 ≤ x ∧ x ≤ 4294967295 := by
  intro n
  induction n with
  | zero => intro l h x hx; have : l = [] := List.length_eq_zero_iff.1 (by omega); subst this; simp [cellsF] at hx
  | succ n ih =>
    intro l h x hx
    match l with
    | [] => simp [cellsF] at hx
    | [_] => simp [cellsF] at hx
    | [_, _] => simp [cellsF] at hx
    | [_, _, _] => simp [cellsF] at hx
    | a :: b :: c :: d :: r =>
      simp only [cellsF, List.mem_cons] at hx
      rcases hx with rfl | hx
      · exact wordT_bd a b c d
      · exact ih r (by simp at h; omega) x hx
theorem cellsT_bd (s : ByteArray) : ∀ x ∈ cellsT s, 0 ≤ x ∧ x ≤ 4294967295 := by
  unfold cellsT
  split
  · exact cellsF_bd _ _ (Nat.le_refl _)
  · intro x hx; simp at hx
theorem cellsF_eq : ∀ (n : Nat) (l : List UInt8), l.length ≤ n → l.length % 4 = 0 → (cellsF l).length * 4 = l.length := by
  intro n
  induction n with
  | zero => intro l h _; have : l = [] := List.length_eq_zero_iff.1 (by omega); subst this; simp [cellsF]
  | succ n ih =>
    intro l h h4
    match l with
    | [] => simp [cellsF]
    | [_] => simp at h4
    | [_, _] => simp at h4
    | [_, _, _] => simp at h4
    | a :: b :: c :: d :: r =>
      have := ih r (by simp at h; omega) (by simp at h4; omega)
      simp only [cellsF, List.length_cons] at *
      omega
theorem cellsT_eq (s : ByteArray) (h : s.size % 4 = 0) : (cellsT s).length * 4 = s.size := by
  unfold cellsT
  split
  · have := cellsF_eq _ s.data.toList (Nat.le_refl _) (by simpa using h); simpa using this
  · rename_i h2
    unfold cellsOkB at h2
    simp [h] at h2
    simp [h2]

/-- A slice of numbers, its cells below block G. -/
def ListAt (G : Nat) (w : World) (v : Value) (l : List Int) : Prop :=
  ∃ (a : Option Addr) (cap : Nat), v = .slice a l.length cap ∧ l.length ≤ cap ∧ cap ≤ 9223372036854775807 ∧
    (0 < l.length → ∃ g o, a = some ⟨g, o, none⟩ ∧ g < G ∧ ∀ (i : Nat) (h : i < l.length), w.cell? ⟨g, o + i, none⟩ = some (.int .i64 l[i]))
theorem ListAt.keeps {G : Nat} {w w' : World} {v : Value} {l : List Int} (h : ListAt G w v l) (k : Below G w w') : ListAt G w' v l := by
  obtain ⟨a, cap, e, h1, h2, h3⟩ := h
  refine ⟨a, cap, e, h1, h2, fun h0 => ?_⟩
  obtain ⟨g, o, ea, hg, hc⟩ := h3 h0
  exact ⟨g, o, ea, hg, fun i hi => (k.cell (p := ⟨g, o + i, none⟩) hg).trans (hc i hi)⟩
/-- Rows of different element types lie apart. -/
theorem owns_apart {w : World} {b1 b2 : Nat} {e1 e2 : TypeId} {s1 s2 : Nat} {v1 v2 : Value} {n1 n2 : Nat} {x1 x2 : List Value} (h1 : w.ownsRow b1 e1 s1 v1 n1 x1) (h2 : w.ownsRow b2 e2 s2 v2 n2 x2) (hne : e1 ≠ e2) : v1.ownBlock = none ∨ v1.ownBlock ≠ v2.ownBlock := by
  rcases h1.2 with ⟨rfl, _⟩ | ⟨g1, c1, cur1, rfl, _, hh1, _⟩
  · exact .inl rfl
  · rcases h2.2 with ⟨rfl, _⟩ | ⟨g2, c2, cur2, rfl, _, hh2, _⟩
    · right; simp [Value.ownBlock]
    · right
      simp only [Value.ownBlock]
      intro e
      simp at e
      subst e
      rw [hh1] at hh2
      simp at hh2
      exact hne hh2.2
/-- A slice of rows of numbers. -/
def RowsAt (w : World) (B : Nat) (v : Value) (rs : List (List Int)) : Prop :=
  ∃ rvs : List Value, w.ownsRow B 22 1 v rs.length rvs ∧ rvs.length = rs.length ∧ ∀ (i : Nat) (h : i < rs.length) (h2 : i < rvs.length), w.ownsRow B 3 1 rvs[i] rs[i].length (intCells rs[i])
theorem RowsAt.keeps {w w' : World} {B : Nat} {v : Value} {rs : List (List Int)} (h : RowsAt w B v rs) (k : Keeps (fun _ => False) w w') : RowsAt w' B v rs := by
  obtain ⟨rvs, h1, h2, h3⟩ := h
  exact ⟨rvs, ownsRow_keeps h1 k (fun _ _ e => e), h2, fun i a b => ownsRow_keeps (h3 i a b) k (fun _ _ e => e)⟩
theorem or_wide (a b : Int) (h0 : 0 ≤ a) (h1 : a ≤ 1073741823) (h2 : 0 ≤ b) (h3 : b ≤ 4294967295) : IntKind.i64.wrap (a * 4294967296) = a * 4294967296 ∧ bits .or .i64 (a * 4294967296) b = a * 4294967296 + b := by
  obtain ⟨x, rfl⟩ := Int.eq_ofNat_of_zero_le h0
  obtain ⟨y, rfl⟩ := Int.eq_ofNat_of_zero_le h2
  have e := or_add 32 (x * 4294967296) y (by omega) ⟨x, by omega⟩ (by omega)
  simp only [Int.natCast_add, Int.natCast_mul, show ((4294967296 : Nat) : Int) = 4294967296 from rfl] at e
  exact ⟨IntWalk.i64_in _ (by omega), e⟩
theorem infoRow : (Tryz.prog.info? 22).map (fun i => (i.zero, i.size, i.bytes)) = some (some (.slice none 0 0), 1, 24) := by kernel_rfl
end Go.Proofs.YtjfkjnakmmkkiaaGreat

namespace Go.Proofs.YtjfkjnakmmkkiaaGreat
open Go.RowKit

def RowsPost (v : ByteArray) (ws : List Int) (w : World) (e : Ending) (w' : World) : Prop :=
  ∃ rv, e = .returned (.tuple #[rv, .int .i64 (rowsT v ws).2]) ∧ RowsAt w' w.heap.size rv (rowsT v ws).1 ∧ Below w.heap.size w w'
theorem ownsRow_base' {w : World} {base base' : Nat} {e : TypeId} {size : Nat} {v : Value} {n : Nat} {xs : List Value} (h : w.ownsRow base e size v n xs) (hb : base' ≤ base) : w.ownsRow base' e size v n xs := by
  refine ⟨h.1, ?_⟩
  rcases h.2 with hn | ⟨g, cap, cur, rfl, hg, r⟩
  · exact .inl hn
  · exact .inr ⟨g, cap, cur, rfl, by omega, r⟩
theorem rowsAt_nil (w : World) (B : Nat) : RowsAt w B (.slice none 0 0) [] := ⟨[], World.ownsRow_nil _ _ _ _, rfl, fun i h => by simp at h⟩
theorem sum_pos {ws : List Int} (h : ∀ x ∈ ws, x = 1 ∨ x = 2) : (ws.length : Int) ≤ sumT ws ∧ sumT ws ≤ 2 * ws.length := by
  induction ws with
  | nil => simp [sumT]
  | cons x ws ih =>
    have := ih (fun y hy => h y (by simp [hy]))
    have hx := h x (by simp)
    rw [sumT_cons]
    simp only [List.length_cons]
    omega

set_option maxRecDepth 100000 in
set_option maxHeartbeats 4000000 in
theorem address_rows (v : ByteArray) (ws : List Int) (gw cw : Nat) (w : World) (hw : ∀ (i : Nat) (h : i < ws.length), w.cell? ⟨gw, i, none⟩ = some (.int .i64 ws[i])) (hws : ∀ x ∈ ws, x = 1 ∨ x = 2) (hn1 : 1 ≤ ws.length) (hn2 : ws.length ≤ 3)
    (hcw : ws.length ≤ cw) (hcw2 : cw ≤ 1000) (hv : v.size ≤ 1000) :
    Calls Tryz.prog 119 #[.string v, .slice (some ⟨gw, 0, none⟩) ws.length cw] w (RowsPost v ws w) := by
  have hsum := sum_pos hws
  have hgw : gw < w.heap.size := World.block_lt_of_cell? w _ (hw 0 hn1)
  have HW := Lib.hid hw; clear hw
  have HWS := Lib.hid hws; clear hws
  go_enter Tryz.func119, Tryz.ntmps119
  go_wp2_with fail
  go_loopg [6, 18] (ws.length) (fun f x y wr => ∃ (k : Nat) (s : Int), x = .int .i64 s ∧ y = .int .i64 k ∧ k ≤ ws.length ∧ ws.length ≤ k + f ∧ Hid (s = sumT (ws.take k)) ∧ 0 ≤ s ∧ s ≤ 2 * k ∧ w = wr)
  case atStart => exact ⟨0, 0, rfl, rfl, by omega, by omega, by simp [Hid, sumT], by omega, by omega, rfl⟩
  case round =>
    obtain ⟨k, s, rfl, rfl, hk, hf, hS, hs0, hs1, rfl⟩ := hrel
    by_cases hlt : k < ws.length
    · have hck := HW.out k hlt
      have hwk := HWS.out ws[k] (List.getElem_mem hlt)
      have hsn := Lib.hid (show sumT (ws.take (k + 1)) = sumT (ws.take k) + ws[k] from by rw [List.take_succ_eq_append_getElem hlt, sumT_snoc])
      generalize ws[k] = q at hck hwk hsn
      have hq0 : 1 ≤ q := by omega
      have hq1 : q ≤ 2 := by omega
      clear hwk
      go_wp2_with fail
      go_roundg (gk - 1)
      case measure => omega
      case rel => exact ⟨k + 1, s + q, rfl, by go_num, by omega, by omega, by show _ = _; rw [hsn.out, ← hS.out], by omega, by omega, rfl⟩
    · have hsE : s = sumT ws := by rw [hS.out, List.take_of_length_le (by omega)]
      have hs2 : 1 ≤ s := by omega
      have hs3 : s ≤ 6 := by omega
      have HSE := Lib.hid hsE
      clear hsE hS
      by_cases hmod : (v.size : Int) % (4 * s) = 0
      · have hmb : (((v.size : Int) % (4 * s)) != 0) = false := by rw [bne_eq_false_iff_eq]; exact hmod
        have hv4 : v.size % 4 = 0 := by
          have h1 : (4 * s) ∣ (v.size : Int) := Int.dvd_of_emod_eq_zero hmod
          have h2 : (4 : Int) ∣ (v.size : Int) := Int.dvd_trans ⟨s, rfl⟩ h1
          omega
        have hlen := cellsT_eq v hv4
        have hdiv : ∃ m : Int, ((cellsT v).length : Int) = s * m := by
          obtain ⟨m, hm⟩ := Int.dvd_of_emod_eq_zero hmod
          refine ⟨m, ?_⟩
          have : (v.size : Int) = 4 * ((cellsT v).length : Int) := by omega
          rw [this, Int.mul_assoc] at hm
          omega
        have hbd := cellsT_bd v
        have hR := Lib.hid (show rowsT v ws = rowsE (rowsF ws (cellsT v).length (cellsT v)) from by unfold rowsT; rw [if_neg (by rw [← HSE.out, hmod]; simp)])
        have hpc := fun wx => print_Cells v wx (by omega) (by omega)
        unfold CellsPost at hpc
        generalize cellsT v = L at hlen hdiv hbd hR hpc
        generalize cellsOkB v = ok at hpc
        have HPC := Lib.hid hpc; clear hpc
        have HBD := Lib.hid hbd; clear hbd
        have HDIV := Lib.hid hdiv; clear hdiv
        go_wp2_with fail
        refine (HPC.out _).mono ?_
        rintro e w1 ⟨lv, rfl, hown, hb1⟩
        have hL0 : ListAt w1.heap.size w1 lv L := by
          obtain ⟨la, lc, rfl⟩ := owns_slice hown
          by_cases hL : 0 < L.length
          · obtain ⟨g, cap, e1, hcap, hg1, hg2, hcell⟩ := ints_at hown hL
            cases e1
            have hm : lc ≤ 9223372036854775807 := by
              rcases hown.2 with ⟨h, _⟩ | ⟨g', cap', cur, e, _, _, _, hmx, _⟩
              · cases h
              · cases e; exact hmx
            exact ⟨_, lc, rfl, hcap, hm, fun _ => ⟨g, 0, rfl, hg2, fun i hi => by rw [Nat.zero_add]; exact hcell i hi⟩⟩
          · rcases hown.2 with ⟨h, _⟩ | ⟨g', cap', cur, e, _, _, hmc, hmx, _⟩
            · simp only [Value.slice.injEq] at h
              obtain ⟨rfl, h1, rfl⟩ := h
              exact ⟨none, 0, rfl, by omega, by omega, fun h => absurd h hL⟩
            · cases e; exact ⟨_, lc, rfl, hmc, hmx, fun h => absurd h hL⟩
        have hb1s := hb1.size
        clear hown
        obtain ⟨la, lc, rfl⟩ : ∃ la lc, lv = .slice la L.length lc := by obtain ⟨a, c, e, _⟩ := hL0; exact ⟨a, c, e⟩
        have HL0 := Lib.hid hL0; clear hL0
        have hLl : L.length ≤ 1000 := by omega
        have HLEN := Lib.hid hlen; clear hlen
        clear hmod hmb
        go_wp2_with fail
        go_loopg [9, 11] (L.length) (fun f x y wr => ∃ (l : List Int) (rs : List (List Int)) (fl : Nat), ListAt w1.heap.size wr x l ∧ Hid (∀ q ∈ l, 0 ≤ q ∧ q ≤ 4294967295) ∧ Hid (∃ m : Int, (l.length : Int) = s * m) ∧ RowsAt wr w1.heap.size y rs ∧
          Hid (rowsF ws L.length L = (rowsF ws fl l).map (rs ++ ·)) ∧ l.length ≤ fl ∧ l.length ≤ f ∧ rs.length + l.length ≤ L.length ∧ Below w1.heap.size w1 wr)
        case atStart => exact ⟨L, [], L.length, HL0.out, HBD.out, HDIV.out, rowsAt_nil _ _, by show _ = _; cases rowsF ws L.length L <;> rfl, by omega, by omega, by simp, Below.refl _ _⟩
        case round =>
          obtain ⟨go, rfl⟩ : ∃ x : Nat, x = gk := ⟨_, rfl⟩
          obtain ⟨wo, rfl⟩ : ∃ x : World, x = wr := ⟨_, rfl⟩
          obtain ⟨l, rs, fl, hL, hQ, hM, hRS, hRF, hfl, hfg, hrl, hbw⟩ := hrel
          obtain ⟨la', lc', rfl, hl1, hl2, hl3⟩ := hL
          have hbws := hbw.size
          obtain ⟨rvs, hown, hrl1, hrl2⟩ := hRS
          obtain ⟨oa, oc, rfl⟩ := owns_slice hown
          have HL3 := Lib.hid hl3; clear hl3
          have HRL := Lib.hid hrl2; clear hrl2
          by_cases hz : 0 < l.length
          · obtain ⟨fl, rfl⟩ : ∃ f', fl = f' + 1 := ⟨fl - 1, by omega⟩
            have hne : l ≠ [] := by intro e; rw [e] at hz; simp at hz
            have hmS : s ≤ l.length := by
              obtain ⟨m, hm⟩ := hM.out
              have h1 : 1 ≤ m := by
                by_cases h : 0 < m
                · omega
                · have h : m ≤ 0 := by omega
                  have := Int.mul_le_mul_of_nonneg_left h hs0
                  omega
              have := Int.mul_le_mul_of_nonneg_left h1 hs0
              omega
            have hRF2 := Lib.hid (show rowsF ws L.length L = ((rowF ws l).bind fun q => (rowsF ws fl q.2).map (q.1 :: ·)).map (rs ++ ·) from by rw [hRF.out]; simp only [rowsF]; rw [if_neg hne])
            have hLa : ListAt w1.heap.size wo (.slice la' l.length lc') l := ⟨la', lc', rfl, hl1, hl2, HL3.out⟩
            have HLA := Lib.hid hLa; clear hLa hRF
            have hOut := Lib.hid hown
            clear hown
            go_wp2_with fail
            go_loopg [9, 12, 42] (ws.length) (fun f x y z wx => ∃ (k : Nat) (l' row : List Int), z = .int .i64 k ∧ k ≤ ws.length ∧ ws.length ≤ k + f ∧ ListAt w1.heap.size wx x l' ∧ row.length = k ∧ wx.ownsRow wo.heap.size 3 1 y row.length (intCells row) ∧
              Hid (rowF ws l = (rowF (ws.drop k) l').map fun q => (row ++ q.1, q.2)) ∧ Hid ((l'.length : Int) = l.length - s + sumT (ws.drop k)) ∧ Hid (∀ q ∈ l', 0 ≤ q ∧ q ≤ 4294967295) ∧ l'.length + k ≤ l.length ∧ Below wo.heap.size wo wx)
            case atStart => exact ⟨0, l, [], rfl, by omega, by omega, HLA.out, rfl, World.ownsRow_nil _ _ _ _, by show _ = _; simp, by show _ = _; rw [List.drop_zero, ← HSE.out]; omega, hQ, by omega, Below.refl _ _⟩
            case round =>
              obtain ⟨k, l', row, rfl, hk2, hf2, hL', hrow, hownR, hF, hLen, hQ', hlk, hbx⟩ := hrel
              obtain ⟨la2, lc2, rfl, hm1, hm2, hm3⟩ := hL'
              have HRW := Lib.hid hrow; clear hrow
              have hbxs := hbx.size
              by_cases hlt2 : k < ws.length
              · have hck : wr.cell? ⟨gw, k, none⟩ = some (.int .i64 ws[k]) := (((hb1.trans (hbw.mono hb1s)).trans (hbx.mono (by omega))).cell (p := ⟨gw, k, none⟩) hgw).trans (HW.out k hlt2)
                have hwk := HWS.out ws[k] (List.getElem_mem hlt2)
                have hss := Lib.hid (show sumT (ws.drop k) = ws[k] + sumT (ws.drop (k + 1)) ∧ 0 ≤ sumT (ws.drop (k + 1)) from by
                  constructor
                  · rw [List.drop_eq_getElem_cons hlt2, sumT_cons]
                  · have := (sum_pos (ws := ws.drop (k + 1)) (fun y hy => HWS.out y (List.mem_of_mem_drop hy))).1; omega)
                obtain ⟨i0, hi, hz0, hz1, hz2⟩ := info_parts infoInt
                have b1 : row.length + 1 ≤ maxLen := by have := HRW.out; unfold maxLen; omega
                have b2 : (row.length + 1) * 8 ≤ 140737488355328 := by have := HRW.out; omega
                generalize hqe' : ws[k] = q at hck hwk hss
                have hqe := Lib.hid hqe'
                clear hqe'
                rcases hwk with hq | hq
                · subst hq
                  have hstep := Lib.hid (show rowF (ws.drop k) l' = (rowF (ws.drop (k + 1)) (l'.drop 1)).map fun z => (l'.headD 0 :: z.1, z.2) from by rw [List.drop_eq_getElem_cons hlt2, hqe.out]; rfl)
                  have hln : 1 ≤ l'.length := by have := hLen.out; have := hss.out; omega
                  obtain ⟨g, o, rfl, hg, hcell⟩ := hm3 (by omega)
                  have c0 := hcell 0 (by omega)
                  rw [Nat.add_zero] at c0
                  have hh := Lib.hid (show l'.headD 0 = l'[0] from by cases l' with
                    | nil => simp at hln
                    | cons a b => rfl)
                  have HCELL := Lib.hid hcell; clear hcell
                  rw [← hh.out] at c0
                  generalize l'.headD 0 = n0 at c0 hstep
                  have i1 : (1 : Int) ≤ (l'.length : Int) := by omega
                  have i2 : (l'.length : Int) ≤ (lc2 : Int) := by omega
                  by_cases hcp : lc2 = 1
                  · subst hcp
                    go_wp2_with fail
                    go_region_held3 (fun wx => Below wo.heap.size wo wx) (first | exact hbx.drew | exact hbx.drew.alloc hbxs _ | exact (hbx.drew.alloc hbxs _).grown hgrow (by simp; omega) (fun g hg => (hownR.lt g hg).1))
                      ((refine step_append_lies _ (by rfl) _ _ _ (by rfl) wo.heap.size 3 i0 _ 1 8 Tryz.underlying22 hi hz0 hz1 hz2 rfl (by omega) _ row.length (intCells row) (by rfl) ((hownR.alloc _).drew) ⟨wr.heap.size, 0, none⟩ 1 1 [.int .i64 n0] (by rfl) (by rfl) (World.news_of_block (cs := #[.int .i64 n0]) (t := 3) (fr := (0, 0)) (heap_alloc_new wr _)) (by simp [Value.oneCell']) (by omega) b1 b2 (by simp; omega) (wr.heap.size + 1) (by simp) ?_; intro gg cap w2 hown1 hgrow hat hlt))
                    all_goals
                      rename_i hSb
                      have hb6 : Below w1.heap.size wr w2 := ((Below.refl _ wr).alloc (by omega) (.cells #[.int .i64 n0] 3)).drew.grown hgrow (by simp; omega) (fun g hg => by have := (hownR.lt g hg).1; omega)
                      clear hgrow hat
                      go_wp2_with fail
                      go_roundg (gk - 1)
                      case measure => omega
                      case rel =>
                        refine ⟨k + 1, l'.drop 1, row ++ [n0], by go_num, by omega, by omega, ListAt.keeps ⟨_, 0, by first | (rw [List.length_drop]; done) | (rw [List.length_drop]; congr 1; omega), by rw [List.length_drop]; omega, by omega, ?_⟩ hb6, by have := HRW.out; simp; omega, by simpa [intCells] using hown1, ?_, ?_, fun z hz => hQ' z (List.mem_of_mem_drop hz), by simp; omega, hSb⟩
                        · exact fun h0 => absurd h0 (by simp; omega)
                        · show _ = _
                          rw [hF.out, hstep.out, Option.map_map]
                          congr 1
                          funext z
                          simp
                        · show _ = _
                          rw [List.length_drop]
                          have := hLen.out
                          have := hss.out
                          omega
                  · have i3 : (2 : Int) ≤ (lc2 : Int) := by omega
                    go_wp2_with fail
                    go_region_held3 (fun wx => Below wo.heap.size wo wx) (first | exact hbx.drew | exact hbx.drew.alloc hbxs _ | exact (hbx.drew.alloc hbxs _).grown hgrow (by simp; omega) (fun g hg => (hownR.lt g hg).1))
                      ((refine step_append_lies _ (by rfl) _ _ _ (by rfl) wo.heap.size 3 i0 _ 1 8 Tryz.underlying22 hi hz0 hz1 hz2 rfl (by omega) _ row.length (intCells row) (by rfl) ((hownR.alloc _).drew) ⟨wr.heap.size, 0, none⟩ 1 1 [.int .i64 n0] (by rfl) (by rfl) (World.news_of_block (cs := #[.int .i64 n0]) (t := 3) (fr := (0, 0)) (heap_alloc_new wr _)) (by simp [Value.oneCell']) (by omega) b1 b2 (by simp; omega) (wr.heap.size + 1) (by simp) ?_; intro gg cap w2 hown1 hgrow hat hlt))
                    all_goals
                      rename_i hSb
                      have hb6 : Below w1.heap.size wr w2 := ((Below.refl _ wr).alloc (by omega) (.cells #[.int .i64 n0] 3)).drew.grown hgrow (by simp; omega) (fun g hg => by have := (hownR.lt g hg).1; omega)
                      clear hgrow hat
                      go_wp2_with fail
                      go_roundg (gk - 1)
                      case measure => omega
                      case rel =>
                        refine ⟨k + 1, l'.drop 1, row ++ [n0], by go_num, by omega, by omega, ListAt.keeps ⟨_, lc2 - 1, by first | (rw [List.length_drop]; done) | (rw [List.length_drop]; congr 1; omega), by rw [List.length_drop]; omega, by omega, ?_⟩ hb6, by have := HRW.out; simp; omega, by simpa [intCells] using hown1, ?_, ?_, fun z hz => hQ' z (List.mem_of_mem_drop hz), by simp; omega, hSb⟩
                        · exact fun h0 => ⟨g, o + 1, rfl, hg, fun i hi => by have := HCELL.out (i + 1) (by simp at hi; omega); rw [show o + (i + 1) = o + 1 + i from by omega] at this; simpa [List.getElem_drop, Nat.add_comm] using this⟩
                        · show _ = _
                          rw [hF.out, hstep.out, Option.map_map]
                          congr 1
                          funext z
                          simp
                        · show _ = _
                          rw [List.length_drop]
                          have := hLen.out
                          have := hss.out
                          omega
                · subst hq
                  have hln : 2 ≤ l'.length := by have := hLen.out; have := hss.out; omega
                  obtain ⟨g, o, rfl, hg, hcell⟩ := hm3 (by omega)
                  have c0 := hcell 0 (by omega)
                  have c1 := hcell 1 (by omega)
                  rw [Nat.add_zero] at c0
                  have hh : l'.headD 0 = l'[0] := by cases l' with
                    | nil => simp at hln
                    | cons a b => rfl
                  have hh1 : l'.getD 1 0 = l'[1] := by simp [List.getD, List.getElem?_eq_getElem (show 1 < l'.length by omega)]
                  have hq0 := hQ' l'[0] (List.getElem_mem _)
                  have hq1 := hQ' l'[1] (List.getElem_mem _)
                  have hst : rowF (ws.drop k) l' = if 1073741823 < l'.headD 0 then none else (rowF (ws.drop (k + 1)) (l'.drop 2)).map fun z => ((l'.headD 0 * 4294967296 + l'.getD 1 0) :: z.1, z.2) := by
                    rw [List.drop_eq_getElem_cons hlt2, hqe.out]; rfl
                  rw [hh, hh1] at hst
                  have HCELL := Lib.hid hcell; clear hcell
                  clear hh hh1
                  generalize l'[0] = n0 at c0 hst hq0
                  generalize l'[1] = n1 at c1 hst hq1
                  obtain ⟨n00, n01⟩ := hq0
                  obtain ⟨n10, n11⟩ := hq1
                  have i1 : (2 : Int) ≤ (l'.length : Int) := by omega
                  have i2 : (l'.length : Int) ≤ (lc2 : Int) := by omega
                  by_cases hbig : 1073741823 < n0
                  · rw [if_pos hbig] at hst
                    have hE := Lib.hid (show rowsT v ws = ([], 2) from by rw [hR.out, hRF2.out, hF.out, hst]; rfl)
                    clear hst
                    go_wp2_with fail
                    go_ret2
                    exact ⟨.slice none 0 0, by rw [hE.out]; rfl, by rw [hE.out]; exact rowsAt_nil _ _, (hb1.trans (hbw.mono hb1s)).trans (hbx.mono (by omega))⟩
                  · rw [if_neg hbig] at hst
                    have hstep := Lib.hid hst
                    clear hst
                    have hsmall : n0 ≤ 1073741823 := by omega
                    obtain ⟨hshl, hor⟩ := or_wide n0 n1 n00 hsmall n10 n11
                    clear hbig
                    by_cases hcp : lc2 = 2
                    · subst hcp
                      go_wp2_with fail
                      go_region_held3 (fun wx => Below wo.heap.size wo wx) (first | exact hbx.drew | exact hbx.drew.alloc hbxs _ | exact (hbx.drew.alloc hbxs _).grown hgrow (by simp; omega) (fun g hg => (hownR.lt g hg).1))
                        ((refine step_append_lies _ (by rfl) _ _ _ (by rfl) wo.heap.size 3 i0 _ 1 8 Tryz.underlying22 hi hz0 hz1 hz2 rfl (by omega) _ row.length (intCells row) (by rfl) ((hownR.alloc _).drew) ⟨wr.heap.size, 0, none⟩ 1 1 [.int .i64 (n0 * 4294967296 + n1)] (by rfl) (by rfl) (World.news_of_block (cs := #[.int .i64 (n0 * 4294967296 + n1)]) (t := 3) (fr := (0, 0)) (heap_alloc_new wr _)) (by simp [Value.oneCell']) (by omega) b1 b2 (by simp; omega) (wr.heap.size + 1) (by simp) ?_; intro gg cap w2 hown1 hgrow hat hlt))
                      all_goals
                        rename_i hSb
                        have hb6 : Below w1.heap.size wr w2 := ((Below.refl _ wr).alloc (by omega) (.cells #[.int .i64 (n0 * 4294967296 + n1)] 3)).drew.grown hgrow (by simp; omega) (fun g hg => by have := (hownR.lt g hg).1; omega)
                        clear hgrow hat
                        go_wp2_with fail
                        go_roundg (gk - 1)
                        case measure => omega
                        case rel =>
                          refine ⟨k + 1, l'.drop 2, row ++ [n0 * 4294967296 + n1], by go_num, by omega, by omega, ListAt.keeps ⟨_, 0, by first | (rw [List.length_drop]; done) | (rw [List.length_drop]; congr 1; omega), by rw [List.length_drop]; omega, by omega, ?_⟩ hb6, by have := HRW.out; simp; omega, by simpa [intCells] using hown1, ?_, ?_, fun z hz => hQ' z (List.mem_of_mem_drop hz), by simp; omega, hSb⟩
                          · exact fun h0 => absurd h0 (by simp; omega)
                          · show _ = _
                            rw [hF.out, hstep.out, Option.map_map]
                            congr 1
                            funext z
                            simp
                          · show _ = _
                            rw [List.length_drop]
                            have := hLen.out
                            have := hss.out
                            omega
                    · have i3 : (3 : Int) ≤ (lc2 : Int) := by omega
                      go_wp2_with fail
                      go_region_held3 (fun wx => Below wo.heap.size wo wx) (first | exact hbx.drew | exact hbx.drew.alloc hbxs _ | exact (hbx.drew.alloc hbxs _).grown hgrow (by simp; omega) (fun g hg => (hownR.lt g hg).1))
                        ((refine step_append_lies _ (by rfl) _ _ _ (by rfl) wo.heap.size 3 i0 _ 1 8 Tryz.underlying22 hi hz0 hz1 hz2 rfl (by omega) _ row.length (intCells row) (by rfl) ((hownR.alloc _).drew) ⟨wr.heap.size, 0, none⟩ 1 1 [.int .i64 (n0 * 4294967296 + n1)] (by rfl) (by rfl) (World.news_of_block (cs := #[.int .i64 (n0 * 4294967296 + n1)]) (t := 3) (fr := (0, 0)) (heap_alloc_new wr _)) (by simp [Value.oneCell']) (by omega) b1 b2 (by simp; omega) (wr.heap.size + 1) (by simp) ?_; intro gg cap w2 hown1 hgrow hat hlt))
                      all_goals
                        rename_i hSb
                        have hb6 : Below w1.heap.size wr w2 := ((Below.refl _ wr).alloc (by omega) (.cells #[.int .i64 (n0 * 4294967296 + n1)] 3)).drew.grown hgrow (by simp; omega) (fun g hg => by have := (hownR.lt g hg).1; omega)
                        clear hgrow hat
                        go_wp2_with fail
                        go_roundg (gk - 1)
                        case measure => omega
                        case rel =>
                          refine ⟨k + 1, l'.drop 2, row ++ [n0 * 4294967296 + n1], by go_num, by omega, by omega, ListAt.keeps ⟨_, lc2 - 2, by first | (rw [List.length_drop]; done) | (rw [List.length_drop]; congr 1; omega), by rw [List.length_drop]; omega, by omega, ?_⟩ hb6, by have := HRW.out; simp; omega, by simpa [intCells] using hown1, ?_, ?_, fun z hz => hQ' z (List.mem_of_mem_drop hz), by simp; omega, hSb⟩
                          · exact fun h0 => ⟨g, o + 2, rfl, hg, fun i hi => by have := HCELL.out (i + 2) (by simp at hi; omega); rw [show o + (i + 2) = o + 2 + i from by omega] at this; simpa [List.getElem_drop, Nat.add_comm] using this⟩
                          · show _ = _
                            rw [hF.out, hstep.out, Option.map_map]
                            congr 1
                            funext z
                            simp
                          · show _ = _
                            rw [List.length_drop]
                            have := hLen.out
                            have := hss.out
                            omega
              · have hkE : k = ws.length := by omega
                have hFE := Lib.hid (show rowF ws l = some (row, l') from by rw [hF.out, hkE, List.drop_length]; simp [rowF])
                have hRF3 : Hid (rowsF ws L.length L = (rowsF ws fl l').map ((rs ++ [row]) ++ ·)) := by
                  show _ = _
                  rw [hRF2.out, hFE.out]
                  simp only [Option.bind_some, Option.map_map]
                  congr 1
                  funext y
                  simp
                have hLE := Lib.hid (show (l'.length : Int) = l.length - s from by rw [hLen.out, hkE, List.drop_length]; simp [sumT])
                clear hF hLen hkE
                obtain ⟨ra, rc, rfl⟩ := owns_slice hownR
                have HR := Lib.hid hownR
                clear hownR
                have hOx := ownsRow_keeps hOut.out (Keeps.of_fresh hbx (fun _ => False)) (fun _ _ e => e)
                have hrs : rs.length ≤ 1000 := by omega
                obtain ⟨i0, hi, hz0, hz1, hz2⟩ := info_parts infoRow
                have hOy := Lib.hid hOx
                go_wp2_with (at_builtin; refine wpList_append_own _ rfl _ _ 138 rfl w1.heap.size 22 i0 _ 1 24 Tryz.underlying138 hi hz0 hz1 hz2 rfl (by decide) _ _ _ rfl (hOx.alloc _) ⟨wr.heap.size, 0, none⟩ 1 1 [.slice ra row.length rc] rfl rfl ?c1 ?c2 ?c3 ?c4 ?c5 ?_)
                case c1 => exact new_cells wr #[.slice ra row.length rc] 22 _ rfl [.slice ra row.length rc] rfl
                case c2 => simp [Value.oneCell']
                case c3 => unfold maxLen; omega
                case c4 => omega
                case c5 => simp; omega
                intro v' w3 hown' hgrow _
                have hKw : Keeps (fun _ => False) wo (wr.alloc (.cells #[.slice ra row.length rc] 22)) := (Keeps.of_fresh hbx (fun _ => False)).alloc _
                have hOz := hOx.alloc (.cells #[.slice ra row.length rc] 22)
                have hRz := HR.out.alloc (.cells #[.slice ra row.length rc] 22)
                have hrows : RowsAt w3 w1.heap.size v' (rs ++ [row]) := by
                  refine ⟨rvs ++ [.slice ra row.length rc], by simpa using hown', by simp [hrl1], ?_⟩
                  intro i hi1 hi2
                  by_cases hir : i < rs.length
                  · have e1 : (rs ++ [row])[i] = rs[i] := List.getElem_append_left hir
                    have e2 : (rvs ++ [Value.slice ra row.length rc])[i] = rvs[i]'(by omega) := List.getElem_append_left (by omega)
                    rw [e1, e2]
                    have h1 := ownsRow_keeps (HRL.out i hir (by omega)) hKw (fun _ _ e => e)
                    exact h1.kept hgrow (owns_apart h1 hOz (by decide))
                  · have hie : i = rs.length := by simp at hi1; omega
                    subst hie
                    have e1 : (rs ++ [row])[rs.length] = row := by simp
                    have e2 : (rvs ++ [Value.slice ra row.length rc])[rs.length] = .slice ra row.length rc := by
                      have : rs.length = rvs.length := hrl1.symm
                      simp [this]
                    rw [e1, e2]
                    exact ownsRow_base' (hRz.kept hgrow (owns_apart hRz hOz (by decide))) hbws
                have hb4 : Below w1.heap.size w1 w3 := ((hbw.trans (hbx.mono hbws)).alloc (by omega) _).grown hgrow (by simp; omega) (fun g hg => (hOz.lt g hg).1)
                have hb5 : Below w1.heap.size wr w3 := ((Below.refl _ wr).alloc (by omega) _).grown hgrow (by simp; omega) (fun g hg => (hOz.lt g hg).1)
                clear hOx hOz hRz hKw hgrow hown'
                go_wp2_with fail
                go_roundg (go - 1)
                case measure => omega
                case rel =>
                  refine ⟨l', rs ++ [row], fl, ListAt.keeps ⟨la2, lc2, rfl, hm1, hm2, hm3⟩ hb5, hQ', ?_, hrows, hRF3, by have := hLE.out; omega, by have := hLE.out; omega, by have := hLE.out; simp; omega, hb4⟩
                  · obtain ⟨m, hm⟩ := hM.out
                    refine ⟨m - 1, ?_⟩
                    rw [hLE.out, hm, Int.mul_sub]; omega
          · have hE := Lib.hid (show rowsT v ws = (rs, 0) from by
              have hl0 : l = [] := List.length_eq_zero_iff.1 (by omega)
              rw [hR.out, hRF.out, hl0]
              cases fl <;> simp [rowsF, rowsE])
            go_wp2_with fail
            go_ret2
            refine ⟨_, by rw [hE.out]; rfl, ?_, hb1.trans (hbw.mono hb1s)⟩
            rw [hE.out]
            exact ⟨rvs, ownsRow_base' hown hb1s, hrl1, fun i h h2 => ownsRow_base' (HRL.out i h h2) hb1s⟩
      · have hmb : (((v.size : Int) % (4 * s)) != 0) = true := by rw [bne_iff_ne]; exact hmod
        have hR := Lib.hid (show rowsT v ws = ([], 26) from by unfold rowsT; rw [if_pos (by rw [← HSE.out]; exact hmod)])
        clear hmod
        go_wp2_with fail
        go_ret2
        exact ⟨.slice none 0 0, by rw [hR.out]; rfl, by rw [hR.out]; exact rowsAt_nil _ _, Below.refl _ _⟩
end Go.Proofs.YtjfkjnakmmkkiaaGreat
