/- Contracts of print: the numbers of a value. | Contracts of address: count, cells. | address.rows: rows of numbers. | The contract of rows of address. | The drawn region of Cells of bringupref07 (printed by gr11.py cells). | The drawn region of Cells of bringupref11 (printed by gr11.py rcells). | The drawn region of ranges of bringupref11 (the parent's cells) (printed by gr11.py rrangesc). -/
import Derived.Test.YthkoaakicdhnpaaGreatZ6
import Derived.Test.YthkoaakicdhnpaaGreatZ7
import Derived.Deep.RegionLaw
import Derived.Deep.AppendLies
import Derived.Deep.RegionHeld3
import Derived.Test.YthkoaakicdhnpaaGreatZ2
import Derived.Test.YthkoaakicdhnpaaGreatZ3

namespace Go.Proofs.YthkoaakicdhnpaaGreat
open Go.RowKit

def cellsF : List UInt8 → List Int
  | a :: b :: c :: d :: r => wordT a b c d :: cellsF r
  | _ => []
def cellsOkB (s : ByteArray) : Bool := decide (s.size ≠ 0) && decide (s.size % 4 = 0)
def cellsT (s : ByteArray) : List Int := if cellsOkB s = true then cellsF s.data.toList else []
def intCells (l : List Int) : List Value := l.map (Value.int .i64)
theorem drop_one (s : ByteArray) (k : Nat) (h : k < s.size) : s.data.toList.drop k = s[k] :: s.data.toList.drop (k + 1) := drop_cons s k h
theorem cellsF_step (z : ByteArray) (h : 4 ≤ z.size) : cellsF z.data.toList = wordT (z[0]'(by omega)) (z[1]'(by omega)) (z[2]'(by omega)) (z[3]'(by omega)) :: cellsF (z.data.toList.drop 4) := by
  have e0 := drop_cons z 0 (by omega)
  rw [List.drop_zero] at e0
  rw [e0, drop_cons z 1 (by omega), drop_cons z 2 (by omega), drop_cons z 3 (by omega)]
  rfl
theorem toList_nil_size (s : ByteArray) : s.toList = [] ↔ s.size = 0 := by
  rw [ByteArray.toList_eq]
  constructor
  · intro h; have := congrArg List.length h; simpa using this
  · intro h; exact List.eq_nil_of_length_eq_zero (by simpa using h)
theorem infoInt : (Tryz.prog.info? 3).map (fun i => (i.zero, i.size, i.bytes)) = some (some (.int .i64 0), 1, 8) := by kernel_rfl
def CellsPost (s : ByteArray) (w : World) (e : Ending) (w' : World) : Prop :=
  ∃ v, e = .returned (.tuple #[v, .bool (cellsOkB s)]) ∧ w'.ownsRow w.heap.size 3 1 v (cellsT s).length (intCells (cellsT s)) ∧ Below w.heap.size w w'
theorem owns_slice {w : World} {base : Nat} {e : TypeId} {size : Nat} {v : Value} {n : Nat} {xs : List Value} (h : w.ownsRow base e size v n xs) : ∃ a cap, v = .slice a n cap := by
  rcases h.2 with ⟨rfl, rfl⟩ | ⟨g, cap, cur, rfl, _⟩
  · exact ⟨none, 0, rfl⟩
  · exact ⟨_, _, rfl⟩

set_option maxRecDepth 100000 in
set_option maxHeartbeats 4000000 in
theorem print_Cells (s : ByteArray) (w : World) (hs : s.size ≤ 9223372036854775807) (hs2 : s.size ≤ 1000000) :
    Calls Tryz.prog 83 #[.string s] w (CellsPost s w) := by
  by_cases h0 : s.size = 0
  · have hne : s.toList = [] := (toList_nil_size s).2 h0
    have hC := Lib.hid (show cellsOkB s = false from by unfold cellsOkB; simp [h0])
    clear h0
    go_enter Tryz.func83, Tryz.ntmps83
    go_wp2_with fail
    go_ret2
    exact ⟨.slice none 0 0, by rw [hC.out]; rfl, by unfold cellsT; rw [hC.out]; exact World.ownsRow_nil _ _ _ _, Below.refl _ _⟩
  · have hne : ¬ s.toList = [] := fun e => h0 ((toList_nil_size s).1 e)
    have hne2 : s.toList.isEmpty = false := by simpa using hne
    by_cases h4 : s.size % 4 = 0
    · have hmod : (((s.size : Int) % 4) != 0) = false := by simp; omega
      have hC := Lib.hid (show cellsOkB s = true from by unfold cellsOkB; simp [h0, h4])
      have hT := Lib.hid (show cellsT s = cellsF s.data.toList from by unfold cellsT; rw [hC.out, if_pos rfl])
      obtain ⟨i0, hi, hz0, hz1, hz2⟩ := info_parts infoInt
      clear h0
      go_enter Tryz.func83, Tryz.ntmps83
      go_wp2_with fail
      clear hne hne2 hmod
      go_loopg [0, 4] (s.size) (fun f x y wr => ∃ (l : List Int) (z : ByteArray), x = .string z ∧ z.size % 4 = 0 ∧ z.size ≤ f ∧ l.length * 4 + z.size = s.size ∧ Hid (cellsF s.data.toList = l ++ cellsF z.data.toList) ∧
        wr.ownsRow w.heap.size 3 1 y l.length (intCells l) ∧ Below w.heap.size w wr)
      case atStart => exact ⟨[], s, rfl, h4, by omega, by simp, rfl, World.ownsRow_nil _ _ _ _, Below.refl _ _⟩
      case round =>
        obtain ⟨l, z, rfl, hz4, hzf, hlz, hH, hown, hb⟩ := hrel
        have hbs := hb.size
        by_cases hz : z.size = 0
        · have zne : z.toList = [] := (toList_nil_size z).2 hz
          have hfin := Lib.hid (show cellsT s = l from by
            rw [hT.out, hH.out, show z.data.toList = [] from by rw [← ByteArray.toList_eq]; exact zne]; simp [cellsF])
          obtain ⟨ao, co, rfl⟩ := owns_slice hown
          clear hz hH
          go_wp2_with fail
          go_ret2
          exact ⟨_, by rw [hC.out]; rfl, by rw [hfin.out]; exact hown, hb⟩
        · have z4 : 4 ≤ z.size := by omega
          have zne : ¬ z.toList = [] := fun e => hz ((toList_nil_size z).1 e)
          have zne2 : z.toList.isEmpty = false := by simpa using zne
          have q0 : 0 < z.size := by omega
          have q1 : 1 < z.size := by omega
          have q2 : 2 < z.size := by omega
          have q3 : 3 < z.size := by omega
          have i0' : (0 : Int) < (z.size : Int) := by omega
          have i1' : (1 : Int) < (z.size : Int) := by omega
          have i2' : (2 : Int) < (z.size : Int) := by omega
          have i3' : (3 : Int) < (z.size : Int) := by omega
          have i4' : (4 : Int) ≤ (z.size : Int) := by omega
          have hstep := Lib.hid (cellsF_step z z4)
          have hex : (z.extract 4 z.size).size = z.size - 4 := by simp
          have HEX := Lib.hid hex; clear hex
          have hdat := Lib.hid (drop_data z 4)
          have hlen : l.length ≤ 1000000 := by omega
          have wb0 := wrap_byte z[0]
          have wb1 := wrap_byte z[1]
          have wb2 := wrap_byte z[2]
          have wb3 := wrap_byte z[3]
          have wm0 := wrap_mul z[0] 16777216 (by omega)
          have wm1 := wrap_mul z[1] 65536 (by omega)
          have wm2 := wrap_mul z[2] 256 (by omega)
          rw [show (((16777216 : Nat)) : Int) = 16777216 from rfl] at wm0
          rw [show (((65536 : Nat)) : Int) = 65536 from rfl] at wm1
          rw [show (((256 : Nat)) : Int) = 256 from rfl] at wm2
          have hor := word_or z[0] z[1] z[2] z[3]
          generalize wordT z[0] z[1] z[2] z[3] = W at hor hstep
          have b1 : l.length + 1 ≤ maxLen := by unfold maxLen; omega
          have b2 : (l.length + 1) * 8 ≤ 140737488355328 := by omega
          clear hz
          go_wp2_with fail
          go_region_held3 (fun wx => Below w.heap.size w wx) (first | exact hb.drew | exact hb.drew.alloc hbs _ | exact (hb.drew.alloc hbs _).grown hgrow (by simp; omega) (fun g hg => (hown.lt g hg).1))
            ((refine step_append_lies _ (by rfl) _ _ _ (by rfl) w.heap.size 3 i0 _ 1 8 Tryz.underlying22 hi hz0 hz1 hz2 rfl (by omega) _ l.length (intCells l) (by rfl) ((hown.alloc _).drew)
                ⟨wr.heap.size, 0, none⟩ 1 1 [.int .i64 W] (by rfl) (by rfl) (World.news_of_block (cs := #[.int .i64 W]) (t := 3) (fr := (0, 0)) (heap_alloc_new wr _)) (by simp [Value.oneCell']) (by omega) b1 b2 (by simp; omega) (wr.heap.size + 1) (by simp) ?_; intro gg cap w1 hown1 hgrow hat hlt))
          all_goals
            rename_i hS
            clear wb0 wb1 wb2 wb3 wm0 wm1 wm2 hor
            go_wp2_with fail
            go_roundg (gk - 1)
            case measure => omega
            case rel =>
              have hx := HEX.out
              refine ⟨l ++ [W], z.extract 4 z.size, rfl, by omega, by omega, by simp; omega, ?_, ?_, hS⟩
              · show _ = _
                rw [hH.out, hstep.out, hdat.out]; simp
              · simpa [intCells] using hown1
    · have hmod : (((s.size : Int) % 4) != 0) = true := by simp; omega
      have hC := Lib.hid (show cellsOkB s = false from by unfold cellsOkB; simp [h4])
      clear h0 h4
      go_enter Tryz.func83, Tryz.ntmps83
      go_wp2_with fail
      go_ret2
      exact ⟨.slice none 0 0, by rw [hC.out]; rfl, by unfold cellsT; rw [hC.out]; exact World.ownsRow_nil _ _ _ _, Below.refl _ _⟩
end Go.Proofs.YthkoaakicdhnpaaGreat

namespace Go.Proofs.YthkoaakicdhnpaaGreat
open Go.RowKit

theorem fit_value {T : List NodeT} (h : checkT T = 0) (n : NodeT) (hn : n ∈ T) (p : PropT) (hp : p ∈ n.props) : p.value.size ≤ 256 := by
  have := check_limits h
  unfold limitsT at this
  simp only [Bool.and_eq_true, List.all_eq_true] at this
  have := this.2 _ hn
  unfold fitB at this
  simp only [Bool.and_eq_true, List.all_eq_true, decide_eq_true_eq] at this
  exact this.2 p hp
theorem valueT_size (T : List NodeT) (node : Int) (x : ByteArray) : (valueT T node x).1.size ≤ 256 := by
  unfold valueT
  split
  · simp
  · rename_i h
    have hc : checkT T = 0 := Decidable.byContradiction (fun e => h (.inl e))
    split
    · simp
    · rename_i n hn
      split
      · split
        · rename_i p hp
          exact fit_value hc n (List.mem_of_getElem? hn) p (List.mem_of_getElem? hp)
        · simp
      · simp
/-- How many cells does a property say? -/
def countV (v : ByteArray × Bool) : Int × Bool :=
  if v.2 = false then (1, true) else if cellsOkB v.1 = false ∨ (cellsT v.1).length ≠ 1 ∨ (cellsT v.1).headD 0 < 1 ∨ 2 < (cellsT v.1).headD 0 then (0, false) else ((cellsT v.1).headD 0, true)
def countT (T : List NodeT) (node : Int) (x : ByteArray) : Int × Bool := countV (valueT T node x)
theorem cellsF_len : ∀ (n : Nat) (l : List UInt8), l.length ≤ n → (cellsF l).length * 4 ≤ l.length := by
  intro n
  induction n with
  | zero => intro l h; have : l = [] := List.length_eq_zero_iff.1 (by omega); subst this; simp [cellsF]
  | succ n ih =>
    intro l h
    match l with
    | [] => simp [cellsF]
    | [_] => simp [cellsF]
    | [_, _] => simp [cellsF]
    | [_, _, _] => simp [cellsF]
    | a :: b :: c :: d :: r =>
      have := ih r (by simp at h; omega)
      simp only [cellsF, List.length_cons] at *
      omega
theorem cellsT_len (s : ByteArray) : (cellsT s).length * 4 ≤ s.size := by
  unfold cellsT
  split
  · have := cellsF_len _ s.data.toList (Nat.le_refl _); simpa using this
  · simp
theorem ints_at {w : World} {base : Nat} {T : TypeId} {v : Value} {l : List Int} (h : w.ownsRow base T 1 v l.length (intCells l)) (hl : 0 < l.length) :
    ∃ g cap, v = .slice (some ⟨g, 0, none⟩) l.length cap ∧ l.length ≤ cap ∧ base ≤ g ∧ g < w.heap.size ∧ ∀ (i : Nat) (hi : i < l.length), w.cell? ⟨g, i, none⟩ = some (.int .i64 l[i]) := by
  rcases h.2 with ⟨_, h0⟩ | ⟨g, cap, cur, rfl, hb, hh, hcap, hr⟩
  · omega
  · refine ⟨g, cap, rfl, hcap, hb, lt_of_block hh, fun i hi => ?_⟩
    have hc := h.cells (g := g) rfl i (.int .i64 l[i]) (by simp [intCells, hi])
    have hadd : (⟨g, 0, none⟩ : Addr).add i = ⟨g, i, none⟩ := by unfold Addr.add; split <;> simp_all
    rwa [hadd] at hc

set_option maxHeartbeats 2000000 in
theorem address_count (R : Nat → Prop) (v : Value) (T : List NodeT) (node : Int) (x : ByteArray) (w : World) (hT : NodesIn R w v T) :
    Calls Tryz.prog 67 #[.agg #[v], .int .i64 node, .string x] w fun e w' => e = .returned (.tuple #[.int .i64 (countT T node x).1, .bool (countT T node x).2]) ∧ Below w.heap.size w w' := by
  obtain ⟨a, cap, rfl, hc1, hc2⟩ := hT.shape
  have HT := Lib.hid hT; clear hT
  have hv := fun wx hx => tree_Value R (.slice a T.length cap) T node x wx hx
  unfold ValuePost at hv
  have hsz := valueT_size T node x
  have hcd := Lib.hid (show countT T node x = countV (valueT T node x) from rfl)
  generalize valueT T node x = V at hv hsz hcd
  obtain ⟨vs, vb⟩ := V
  simp only at hv hsz
  have HV := Lib.hid hv; clear hv
  cases vb with
  | false =>
    have hC := Lib.hid (show countT T node x = (1, true) from by rw [hcd.out]; rfl)
    clear hcd
    go_enter Tryz.func67, Tryz.ntmps67
    go_wp2_with fail
    refine (HV.out _ (by exact HT.out.new ((Below.refl w.heap.size w).alloc (Nat.le_refl _) _))).mono ?_
    rintro e w' ⟨rfl, hb⟩
    go_wp2_with fail
    go_ret2
    exact ⟨by rw [hC.out]; rfl, ((Below.refl _ _).alloc (Nat.le_refl _) _).trans (hb.mono (by simp))⟩
  | true =>
    have hpc := fun wx => print_Cells vs wx (by omega) (by omega)
    unfold CellsPost at hpc
    have hcd2 := Lib.hid (show countT T node x = if cellsOkB vs = false ∨ (cellsT vs).length ≠ 1 ∨ (cellsT vs).headD 0 < 1 ∨ 2 < (cellsT vs).headD 0 then (0, false) else ((cellsT vs).headD 0, true) from by rw [hcd.out]; rfl)
    have hbig : (cellsT vs).length ≤ 1000 := by have := cellsT_len vs; omega
    clear hcd
    have hkb : cellsOkB vs = false → cellsT vs = [] := by intro h; unfold cellsT; rw [h]; rfl
    generalize cellsT vs = l at hpc hcd2 hbig hkb
    generalize cellsOkB vs = ok at hpc hcd2 hkb
    have HPC := Lib.hid hpc; clear hpc
    have HKB := Lib.hid hkb; clear hkb
    go_enter Tryz.func67, Tryz.ntmps67
    go_wp2_with fail
    refine (HV.out _ (by exact HT.out.new ((Below.refl w.heap.size w).alloc (Nat.le_refl _) _))).mono ?_
    rintro e w1 ⟨rfl, hb⟩
    have hb1 : Below w.heap.size w w1 := ((Below.refl _ _).alloc (Nat.le_refl _) _).trans (hb.mono (by simp))
    go_wp2_with fail
    refine (HPC.out _).mono ?_
    rintro e w2 ⟨lv, rfl, hown, hb2⟩
    have hb3 : Below w.heap.size w w2 := hb1.trans (hb2.mono hb1.size)
    obtain ⟨la, lc, rfl⟩ := owns_slice hown
    by_cases hok : ok = false
    · subst hok
      have hC := Lib.hid (show countT T node x = (0, false) from by rw [hcd2.out, if_pos (.inl rfl)])
      go_wp2_with fail
      go_ret2
      exact ⟨by rw [hC.out]; rfl, hb3⟩
    · have hok' : ok = true := by simpa using hok
      subst hok'
      clear hok
      by_cases h1 : l.length = 1
      · obtain ⟨g, cp, e1, hcp, hg1, hg2, hcell⟩ := ints_at hown (by omega)
        cases e1
        have c0 := hcell 0 (by omega)
        clear hcell
        obtain ⟨q, rfl⟩ : ∃ q, l = [q] := List.length_eq_one_iff.1 h1
        simp only [List.getElem_cons_zero] at c0
        simp only [List.length_cons, List.length_nil] at hcp
        clear h1 hown hbig
        by_cases hlo : q < 1
        · have hC := Lib.hid (show countT T node x = (0, false) from by rw [hcd2.out, if_pos (.inr (.inr (.inl (by simpa using hlo))))])
          go_wp2_with fail
          go_ret2
          exact ⟨by rw [hC.out]; rfl, hb3⟩
        · have hlo' : 1 ≤ q := by omega
          by_cases hhi : 2 < q
          · have hC := Lib.hid (show countT T node x = (0, false) from by rw [hcd2.out, if_pos (.inr (.inr (.inr (by simpa using hhi))))])
            go_wp2_with fail
            go_ret2
            exact ⟨by rw [hC.out]; rfl, hb3⟩
          · have hhi' : q ≤ 2 := by omega
            have hC := Lib.hid (show countT T node x = (q, true) from by
              rw [hcd2.out, if_neg (by rintro (h | h | h | h); cases h; exact h rfl; simp at h; omega; simp at h; omega)]; rfl)
            go_wp2_with fail
            go_ret2
            exact ⟨by rw [hC.out]; rfl, hb3⟩
      · have hlb : ((l.length : Int) != 1) = true := by rw [bne_iff_ne]; omega
        have hC := Lib.hid (show countT T node x = (0, false) from by rw [hcd2.out, if_pos (.inr (.inl h1))])
        clear h1
        go_wp2_with fail
        go_ret2
        exact ⟨by rw [hC.out]; rfl, hb3⟩

def nmAC : ByteArray := ⟨#[35, 97, 100, 100, 114, 101, 115, 115, 45, 99, 101, 108, 108, 115]⟩
def nmSC : ByteArray := ⟨#[35, 115, 105, 122, 101, 45, 99, 101, 108, 108, 115]⟩
/-- The numbers of cells of a node of a valid tree. -/
def pairT (T : List NodeT) (node : Int) : Int × Int × Int :=
  if (countT T node nmAC).2 = false ∨ (countT T node nmSC).2 = false then (0, 0, 26) else ((countT T node nmAC).1, (countT T node nmSC).1, 0)

set_option maxHeartbeats 2000000 in
theorem address_cells (R : Nat → Prop) (v : Value) (T : List NodeT) (node : Int) (w : World) (hT : NodesIn R w v T) :
    Calls Tryz.prog 43 #[.agg #[v], .int .i64 node] w fun e w' => e = .returned (.tuple #[.int .i64 (pairT T node).1, .int .i64 (pairT T node).2.1, .int .i64 (pairT T node).2.2]) ∧ Below w.heap.size w w' := by
  obtain ⟨a, cap, rfl, hc1, hc2⟩ := hT.shape
  have HT := Lib.hid hT; clear hT
  have h1 := fun wx hx => address_count R (.slice a T.length cap) T node nmAC wx hx
  have h2 := fun wx hx => address_count R (.slice a T.length cap) T node nmSC wx hx
  have hcd := Lib.hid (show pairT T node = if (countT T node nmAC).2 = false ∨ (countT T node nmSC).2 = false then (0, 0, 26) else ((countT T node nmAC).1, (countT T node nmSC).1, 0) from rfl)
  generalize countT T node nmAC = C1 at h1 hcd
  generalize countT T node nmSC = C2 at h2 hcd
  obtain ⟨y1, b1⟩ := C1
  obtain ⟨y2, b2⟩ := C2
  unfold nmAC at h1
  unfold nmSC at h2
  have H1 := Lib.hid h1; clear h1
  have H2 := Lib.hid h2; clear h2
  cases b1 with
  | false =>
    have hC := Lib.hid (show pairT T node = (0, 0, 26) from by rw [hcd.out, if_pos (.inl rfl)])
    go_enter Tryz.func43, Tryz.ntmps43
    go_wp2_with fail
    refine (H1.out _ (by exact HT.out.new ((Below.refl w.heap.size w).alloc (Nat.le_refl _) _))).mono ?_
    rintro e w1 ⟨rfl, hb⟩
    have hb1 : Below w.heap.size w w1 := ((Below.refl _ _).alloc (Nat.le_refl _) _).trans (hb.mono (by simp))
    have hB := (Holds.new w #[.slice a T.length cap] 25).keeps (Keeps.of_fresh hb (fun _ => False)) (fun e => e)
    have bx := hB.cell 0
    have blt := hB.lt
    go_wp2_with fail
    refine (H2.out _ (by exact HT.out.new hb1)).mono ?_
    rintro e w2 ⟨rfl, hb2⟩
    go_wp2_with fail
    go_ret3
    exact ⟨by rw [hC.out]; rfl, hb1.trans (hb2.mono hb1.size)⟩
  | true =>
    cases b2 with
    | false =>
      have hC := Lib.hid (show pairT T node = (0, 0, 26) from by rw [hcd.out, if_pos (.inr rfl)])
      go_enter Tryz.func43, Tryz.ntmps43
      go_wp2_with fail
      refine (H1.out _ (by exact HT.out.new ((Below.refl w.heap.size w).alloc (Nat.le_refl _) _))).mono ?_
      rintro e w1 ⟨rfl, hb⟩
      have hb1 : Below w.heap.size w w1 := ((Below.refl _ _).alloc (Nat.le_refl _) _).trans (hb.mono (by simp))
      have hB := (Holds.new w #[.slice a T.length cap] 25).keeps (Keeps.of_fresh hb (fun _ => False)) (fun e => e)
      have bx := hB.cell 0
      have blt := hB.lt
      go_wp2_with fail
      refine (H2.out _ (by exact HT.out.new hb1)).mono ?_
      rintro e w2 ⟨rfl, hb2⟩
      go_wp2_with fail
      go_ret3
      exact ⟨by rw [hC.out]; rfl, hb1.trans (hb2.mono hb1.size)⟩
    | true =>
      have hC := Lib.hid (show pairT T node = (y1, y2, 0) from by rw [hcd.out, if_neg (by simp)])
      go_enter Tryz.func43, Tryz.ntmps43
      go_wp2_with fail
      refine (H1.out _ (by exact HT.out.new ((Below.refl w.heap.size w).alloc (Nat.le_refl _) _))).mono ?_
      rintro e w1 ⟨rfl, hb⟩
      have hb1 : Below w.heap.size w w1 := ((Below.refl _ _).alloc (Nat.le_refl _) _).trans (hb.mono (by simp))
      have hB := (Holds.new w #[.slice a T.length cap] 25).keeps (Keeps.of_fresh hb (fun _ => False)) (fun e => e)
      have bx := hB.cell 0
      have blt := hB.lt
      go_wp2_with fail
      refine (H2.out _ (by exact HT.out.new hb1)).mono ?_
      rintro e w2 ⟨rfl, hb2⟩
      go_wp2_with fail
      go_ret3
      exact ⟨by rw [hC.out]; rfl, hb1.trans (hb2.mono hb1.size)⟩
end Go.Proofs.YthkoaakicdhnpaaGreat

namespace Go.Proofs.YthkoaakicdhnpaaGreat
open Go.RowKit

def rowF : List Int → List Int → Option (List Int × List Int)
  | [], l => some ([], l)
  | w :: ws, l =>
    if w = 2 then (if 1073741823 < l.headD 0 then none else (rowF ws (l.drop 2)).map fun q => ((l.headD 0 * 4294967296 + l.getD 1 0) :: q.1, q.2))
    else (rowF ws (l.drop 1)).map fun q => (l.headD 0 :: q.1, q.2)
def rowsF (ws : List Int) : Nat → List Int → Option (List (List Int))
  | 0, _ => some []
  | f + 1, l => if l = [] then some [] else (rowF ws l).bind fun q => (rowsF ws f q.2).map (q.1 :: ·)
def sumT (ws : List Int) : Int := ws.foldl (· + ·) 0
def rowsE (o : Option (List (List Int))) : List (List Int) × Int := match o with
  | none => ([], 2)
  | some rs => (rs, 0)
def rowsT (v : ByteArray) (ws : List Int) : List (List Int) × Int :=
  if (v.size : Int) % (4 * sumT ws) ≠ 0 then ([], 26) else rowsE (rowsF ws (cellsT v).length (cellsT v))
theorem sumT_snoc (ws : List Int) (x : Int) : sumT (ws ++ [x]) = sumT ws + x := by simp [sumT]
theorem sumT_cons (ws : List Int) (x : Int) : sumT (x :: ws) = x + sumT ws := by
  have key : ∀ (l : List Int) (a : Int), l.foldl (· + ·) a = a + l.foldl (· + ·) 0 := by
    intro l
    induction l with
    | nil => intro a; simp
    | cons y l ih => intro a; simp only [List.foldl_cons]; rw [ih (a + y), ih (0 + y)]; omega
  unfold sumT
  rw [List.foldl_cons, key]; omega
theorem cellsF_bd : ∀ (n : Nat) (l : List UInt8), l.length ≤ n → ∀ x ∈ cellsF l, 0 ≤ x ∧ x ≤ 4294967295 := by
  intro n
  induction n with
  | zero => intro l h x hx; have : l = [] := List.length_eq_zero_iff.1 (by omega); subst this; simp [cellsF] at hx
  | succ n ih =>
    intro l h x hx
    match l with
    | [] => simp [cellsF] at hx
    | [_] => simp [cellsF] at hx
    | [_, _] => simp [cellsF] at hx
    | [_, _, _] => simp [cellsF] at hx
    | a :: b :: c :: d :: r =>
      simp only [cellsF, List.mem_cons] at hx
      rcases hx with rfl | hx
      · exact wordT_bd a b c d
      · exact ih r (by simp at h; omega) x hx
theorem cellsT_bd (s : ByteArray) : ∀ x ∈ cellsT s, 0 ≤ x ∧ x ≤ 4294967295 := by
  unfold cellsT
  split
  · exact cellsF_bd _ _ (Nat.le_refl _)
  · intro x hx; simp at hx
theorem cellsF_eq : ∀ (n : Nat) (l : List UInt8), l.length ≤ n → l.length % 4 = 0 → (cellsF l).length * 4 = l.length := by
  intro n
  induction n with
  | zero => intro l h _; have : l = [] := List.length_eq_zero_iff.1 (by omega); subst this; simp [cellsF]
  | succ n ih =>
    intro l h h4
    match l with
    | [] => simp [cellsF]
    | [_] => simp at h4
    | [_, _] => simp at h4
    | [_, _, _] => simp at h4
    | a :: b :: c :: d :: r =>
      have := ih r (by simp at h; omega) (by simp at h4; omega)
      simp only [cellsF, List.length_cons] at *
      omega
theorem cellsT_eq (s : ByteArray) (h : s.size % 4 = 0) : (cellsT s).length * 4 = s.size := by
  unfold cellsT
  split
  · have := cellsF_eq _ s.data.toList (Nat.le_refl _) (by simpa using h); simpa using this
  · rename_i h2
    unfold cellsOkB at h2
    simp [h] at h2
    simp [h2]

/-- A slice of numbers, its cells below block G. -/
def ListAt (G : Nat) (w : World) (v : Value) (l : List Int) : Prop :=
  ∃ (a : Option Addr) (cap : Nat), v = .slice a l.length cap ∧ l.length ≤ cap ∧ cap ≤ 9223372036854775807 ∧
    (0 < l.length → ∃ g o, a = some ⟨g, o, none⟩ ∧ g < G ∧ ∀ (i : Nat) (h : i < l.length), w.cell? ⟨g, o + i, none⟩ = some (.int .i64 l[i]))
theorem ListAt.keeps {G : Nat} {w w' : World} {v : Value} {l : List Int} (h : ListAt G w v l) (k : Below G w w') : ListAt G w' v l := by
  obtain ⟨a, cap, e, h1, h2, h3⟩ := h
  refine ⟨a, cap, e, h1, h2, fun h0 => ?_⟩
  obtain ⟨g, o, ea, hg, hc⟩ := h3 h0
  exact ⟨g, o, ea, hg, fun i hi => (k.cell (p := ⟨g, o + i, none⟩) hg).trans (hc i hi)⟩
/-- Rows of different element types lie apart. -/
theorem owns_apart {w : World} {b1 b2 : Nat} {e1 e2 : TypeId} {s1 s2 : Nat} {v1 v2 : Value} {n1 n2 : Nat} {x1 x2 : List Value} (h1 : w.ownsRow b1 e1 s1 v1 n1 x1) (h2 : w.ownsRow b2 e2 s2 v2 n2 x2) (hne : e1 ≠ e2) : v1.ownBlock = none ∨ v1.ownBlock ≠ v2.ownBlock := by
  rcases h1.2 with ⟨rfl, _⟩ | ⟨g1, c1, cur1, rfl, _, hh1, _⟩
  · exact .inl rfl
  · rcases h2.2 with ⟨rfl, _⟩ | ⟨g2, c2, cur2, rfl, _, hh2, _⟩
    · right; simp [Value.ownBlock]
    · right
      simp only [Value.ownBlock]
      intro e
      simp at e
      subst e
      rw [hh1] at hh2
      simp at hh2
      exact hne hh2.2
/-- A slice of rows of numbers. -/
def RowsAt (w : World) (B : Nat) (v : Value) (rs : List (List Int)) : Prop :=
  ∃ rvs : List Value, w.ownsRow B 22 1 v rs.length rvs ∧ rvs.length = rs.length ∧ ∀ (i : Nat) (h : i < rs.length) (h2 : i < rvs.length), w.ownsRow B 3 1 rvs[i] rs[i].length (intCells rs[i])
theorem RowsAt.keeps {w w' : World} {B : Nat} {v : Value} {rs : List (List Int)} (h : RowsAt w B v rs) (k : Keeps (fun _ => False) w w') : RowsAt w' B v rs := by
  obtain ⟨rvs, h1, h2, h3⟩ := h
  exact ⟨rvs, ownsRow_keeps h1 k (fun _ _ e => e), h2, fun i a b => ownsRow_keeps (h3 i a b) k (fun _ _ e => e)⟩
theorem or_wide (a b : Int) (h0 : 0 ≤ a) (h1 : a ≤ 1073741823) (h2 : 0 ≤ b) (h3 : b ≤ 4294967295) : IntKind.i64.wrap (a * 4294967296) = a * 4294967296 ∧ bits .or .i64 (a * 4294967296) b = a * 4294967296 + b := by
  obtain ⟨x, rfl⟩ := Int.eq_ofNat_of_zero_le h0
  obtain ⟨y, rfl⟩ := Int.eq_ofNat_of_zero_le h2
  have e := or_add 32 (x * 4294967296) y (by omega) ⟨x, by omega⟩ (by omega)
  simp only [Int.natCast_add, Int.natCast_mul, show ((4294967296 : Nat) : Int) = 4294967296 from rfl] at e
  exact ⟨IntWalk.i64_in _ (by omega), e⟩
theorem infoRow : (Tryz.prog.info? 22).map (fun i => (i.zero, i.size, i.bytes)) = some (some (.slice none 0 0), 1, 24) := by kernel_rfl
end Go.Proofs.YthkoaakicdhnpaaGreat

namespace Go.Proofs.YthkoaakicdhnpaaGreat
open Go.RowKit

def RowsPost (v : ByteArray) (ws : List Int) (w : World) (e : Ending) (w' : World) : Prop :=
  ∃ rv, e = .returned (.tuple #[rv, .int .i64 (rowsT v ws).2]) ∧ RowsAt w' w.heap.size rv (rowsT v ws).1 ∧ Below w.heap.size w w'
theorem ownsRow_base' {w : World} {base base' : Nat} {e : TypeId} {size : Nat} {v : Value} {n : Nat} {xs : List Value} (h : w.ownsRow base e size v n xs) (hb : base' ≤ base) : w.ownsRow base' e size v n xs := by
  refine ⟨h.1, ?_⟩
  rcases h.2 with hn | ⟨g, cap, cur, rfl, hg, r⟩
  · exact .inl hn
  · exact .inr ⟨g, cap, cur, rfl, by omega, r⟩
theorem rowsAt_nil (w : World) (B : Nat) : RowsAt w B (.slice none 0 0) [] := ⟨[], World.ownsRow_nil _ _ _ _, rfl, fun i h => by simp at h⟩
theorem sum_pos {ws : List Int} (h : ∀ x ∈ ws, x = 1 ∨ x = 2) : (ws.length : Int) ≤ sumT ws ∧ sumT ws ≤ 2 * ws.length := by
  induction ws with
  | nil => simp [sumT]
  | cons x ws ih =>
    have := ih (fun y hy => h y (by simp [hy]))
    have hx := h x (by simp)
    rw [sumT_cons]
    simp only [List.length_cons]
    omega

set_option maxRecDepth 100000 in
set_option maxHeartbeats 4000000 in
theorem address_rows (v : ByteArray) (ws : List Int) (gw cw : Nat) (w : World) (hw : ∀ (i : Nat) (h : i < ws.length), w.cell? ⟨gw, i, none⟩ = some (.int .i64 ws[i])) (hws : ∀ x ∈ ws, x = 1 ∨ x = 2) (hn1 : 1 ≤ ws.length) (hn2 : ws.length ≤ 3)
    (hcw : ws.length ≤ cw) (hcw2 : cw ≤ 1000) (hv : v.size ≤ 1000) :
    Calls Tryz.prog 69 #[.string v, .slice (some ⟨gw, 0, none⟩) ws.length cw] w (RowsPost v ws w) := by
  have hsum := sum_pos hws
  have hgw : gw < w.heap.size := World.block_lt_of_cell? w _ (hw 0 hn1)
  have HW := Lib.hid hw; clear hw
  have HWS := Lib.hid hws; clear hws
  go_enter Tryz.func69, Tryz.ntmps69
  go_wp2_with fail
  go_loopg [6, 18] (ws.length) (fun f x y wr => ∃ (k : Nat) (s : Int), x = .int .i64 s ∧ y = .int .i64 k ∧ k ≤ ws.length ∧ ws.length ≤ k + f ∧ Hid (s = sumT (ws.take k)) ∧ 0 ≤ s ∧ s ≤ 2 * k ∧ w = wr)
  case atStart => exact ⟨0, 0, rfl, rfl, by omega, by omega, by simp [Hid, sumT], by omega, by omega, rfl⟩
  case round =>
    obtain ⟨k, s, rfl, rfl, hk, hf, hS, hs0, hs1, rfl⟩ := hrel
    by_cases hlt : k < ws.length
    · have hck := HW.out k hlt
      have hwk := HWS.out ws[k] (List.getElem_mem hlt)
      have hsn := Lib.hid (show sumT (ws.take (k + 1)) = sumT (ws.take k) + ws[k] from by rw [List.take_succ_eq_append_getElem hlt, sumT_snoc])
      generalize ws[k] = q at hck hwk hsn
      have hq0 : 1 ≤ q := by omega
      have hq1 : q ≤ 2 := by omega
      clear hwk
      go_wp2_with fail
      go_roundg (gk - 1)
      case measure => omega
      case rel => exact ⟨k + 1, s + q, rfl, by go_num, by omega, by omega, by show _ = _; rw [hsn.out, ← hS.out], by omega, by omega, rfl⟩
    · have hsE : s = sumT ws := by rw [hS.out, List.take_of_length_le (by omega)]
      have hs2 : 1 ≤ s := by omega
      have hs3 : s ≤ 6 := by omega
      have HSE := Lib.hid hsE
      clear hsE hS
      by_cases hmod : (v.size : Int) % (4 * s) = 0
      · have hmb : (((v.size : Int) % (4 * s)) != 0) = false := by rw [bne_eq_false_iff_eq]; exact hmod
        have hv4 : v.size % 4 = 0 := by
          have h1 : (4 * s) ∣ (v.size : Int) := Int.dvd_of_emod_eq_zero hmod
          have h2 : (4 : Int) ∣ (v.size : Int) := Int.dvd_trans ⟨s, rfl⟩ h1
          omega
        have hlen := cellsT_eq v hv4
        have hdiv : ∃ m : Int, ((cellsT v).length : Int) = s * m := by
          obtain ⟨m, hm⟩ := Int.dvd_of_emod_eq_zero hmod
          refine ⟨m, ?_⟩
          have : (v.size : Int) = 4 * ((cellsT v).length : Int) := by omega
          rw [this, Int.mul_assoc] at hm
          omega
        have hbd := cellsT_bd v
        have hR := Lib.hid (show rowsT v ws = rowsE (rowsF ws (cellsT v).length (cellsT v)) from by unfold rowsT; rw [if_neg (by rw [← HSE.out, hmod]; simp)])
        have hpc := fun wx => print_Cells v wx (by omega) (by omega)
        unfold CellsPost at hpc
        generalize cellsT v = L at hlen hdiv hbd hR hpc
        generalize cellsOkB v = ok at hpc
        have HPC := Lib.hid hpc; clear hpc
        have HBD := Lib.hid hbd; clear hbd
        have HDIV := Lib.hid hdiv; clear hdiv
        go_wp2_with fail
        refine (HPC.out _).mono ?_
        rintro e w1 ⟨lv, rfl, hown, hb1⟩
        have hL0 : ListAt w1.heap.size w1 lv L := by
          obtain ⟨la, lc, rfl⟩ := owns_slice hown
          by_cases hL : 0 < L.length
          · obtain ⟨g, cap, e1, hcap, hg1, hg2, hcell⟩ := ints_at hown hL
            cases e1
            have hm : lc ≤ 9223372036854775807 := by
              rcases hown.2 with ⟨h, _⟩ | ⟨g', cap', cur, e, _, _, _, hmx, _⟩
              · cases h
              · cases e; exact hmx
            exact ⟨_, lc, rfl, hcap, hm, fun _ => ⟨g, 0, rfl, hg2, fun i hi => by rw [Nat.zero_add]; exact hcell i hi⟩⟩
          · rcases hown.2 with ⟨h, _⟩ | ⟨g', cap', cur, e, _, _, hmc, hmx, _⟩
            · simp only [Value.slice.injEq] at h
              obtain ⟨rfl, h1, rfl⟩ := h
              exact ⟨none, 0, rfl, by omega, by omega, fun h => absurd h hL⟩
            · cases e; exact ⟨_, lc, rfl, hmc, hmx, fun h => absurd h hL⟩
        have hb1s := hb1.size
        clear hown
        obtain ⟨la, lc, rfl⟩ : ∃ la lc, lv = .slice la L.length lc := by obtain ⟨a, c, e, _⟩ := hL0; exact ⟨a, c, e⟩
        have HL0 := Lib.hid hL0; clear hL0
        have hLl : L.length ≤ 1000 := by omega
        have HLEN := Lib.hid hlen; clear hlen
        clear hmod hmb
        go_wp2_with fail
        go_loopg [9, 11] (L.length) (fun f x y wr => ∃ (l : List Int) (rs : List (List Int)) (fl : Nat), ListAt w1.heap.size wr x l ∧ Hid (∀ q ∈ l, 0 ≤ q ∧ q ≤ 4294967295) ∧ Hid (∃ m : Int, (l.length : Int) = s * m) ∧ RowsAt wr w1.heap.size y rs ∧
          Hid (rowsF ws L.length L = (rowsF ws fl l).map (rs ++ ·)) ∧ l.length ≤ fl ∧ l.length ≤ f ∧ rs.length + l.length ≤ L.length ∧ Below w1.heap.size w1 wr)
        case atStart => exact ⟨L, [], L.length, HL0.out, HBD.out, HDIV.out, rowsAt_nil _ _, by show _ = _; cases rowsF ws L.length L <;> rfl, by omega, by omega, by simp, Below.refl _ _⟩
        case round =>
          obtain ⟨go, rfl⟩ : ∃ x : Nat, x = gk := ⟨_, rfl⟩
          obtain ⟨wo, rfl⟩ : ∃ x : World, x = wr := ⟨_, rfl⟩
          obtain ⟨l, rs, fl, hL, hQ, hM, hRS, hRF, hfl, hfg, hrl, hbw⟩ := hrel
          obtain ⟨la', lc', rfl, hl1, hl2, hl3⟩ := hL
          have hbws := hbw.size
          obtain ⟨rvs, hown, hrl1, hrl2⟩ := hRS
          obtain ⟨oa, oc, rfl⟩ := owns_slice hown
          have HL3 := Lib.hid hl3; clear hl3
          have HRL := Lib.hid hrl2; clear hrl2
          by_cases hz : 0 < l.length
          · obtain ⟨fl, rfl⟩ : ∃ f', fl = f' + 1 := ⟨fl - 1, by omega⟩
            have hne : l ≠ [] := by intro e; rw [e] at hz; simp at hz
            have hmS : s ≤ l.length := by
              obtain ⟨m, hm⟩ := hM.out
              have h1 : 1 ≤ m := by
                by_cases h : 0 < m
                · omega
                · have h : m ≤ 0 := by omega
                  have := Int.mul_le_mul_of_nonneg_left h hs0
                  omega
              have := Int.mul_le_mul_of_nonneg_left h1 hs0
              omega
            have hRF2 := Lib.hid (show rowsF ws L.length L = ((rowF ws l).bind fun q => (rowsF ws fl q.2).map (q.1 :: ·)).map (rs ++ ·) from by rw [hRF.out]; simp only [rowsF]; rw [if_neg hne])
            have hLa : ListAt w1.heap.size wo (.slice la' l.length lc') l := ⟨la', lc', rfl, hl1, hl2, HL3.out⟩
            have HLA := Lib.hid hLa; clear hLa hRF
            have hOut := Lib.hid hown
            clear hown
            go_wp2_with fail
            go_loopg [9, 12, 42] (ws.length) (fun f x y z wx => ∃ (k : Nat) (l' row : List Int), z = .int .i64 k ∧ k ≤ ws.length ∧ ws.length ≤ k + f ∧ ListAt w1.heap.size wx x l' ∧ row.length = k ∧ wx.ownsRow wo.heap.size 3 1 y row.length (intCells row) ∧
              Hid (rowF ws l = (rowF (ws.drop k) l').map fun q => (row ++ q.1, q.2)) ∧ Hid ((l'.length : Int) = l.length - s + sumT (ws.drop k)) ∧ Hid (∀ q ∈ l', 0 ≤ q ∧ q ≤ 4294967295) ∧ l'.length + k ≤ l.length ∧ Below wo.heap.size wo wx)
            case atStart => exact ⟨0, l, [], rfl, by omega, by omega, HLA.out, rfl, World.ownsRow_nil _ _ _ _, by show _ = _; simp, by show _ = _; rw [List.drop_zero, ← HSE.out]; omega, hQ, by omega, Below.refl _ _⟩
            case round =>
              obtain ⟨k, l', row, rfl, hk2, hf2, hL', hrow, hownR, hF, hLen, hQ', hlk, hbx⟩ := hrel
              obtain ⟨la2, lc2, rfl, hm1, hm2, hm3⟩ := hL'
              have HRW := Lib.hid hrow; clear hrow
              have hbxs := hbx.size
              by_cases hlt2 : k < ws.length
              · have hck : wr.cell? ⟨gw, k, none⟩ = some (.int .i64 ws[k]) := (((hb1.trans (hbw.mono hb1s)).trans (hbx.mono (by omega))).cell (p := ⟨gw, k, none⟩) hgw).trans (HW.out k hlt2)
                have hwk := HWS.out ws[k] (List.getElem_mem hlt2)
                have hss := Lib.hid (show sumT (ws.drop k) = ws[k] + sumT (ws.drop (k + 1)) ∧ 0 ≤ sumT (ws.drop (k + 1)) from by
                  constructor
                  · rw [List.drop_eq_getElem_cons hlt2, sumT_cons]
                  · have := (sum_pos (ws := ws.drop (k + 1)) (fun y hy => HWS.out y (List.mem_of_mem_drop hy))).1; omega)
                obtain ⟨i0, hi, hz0, hz1, hz2⟩ := info_parts infoInt
                have b1 : row.length + 1 ≤ maxLen := by have := HRW.out; unfold maxLen; omega
                have b2 : (row.length + 1) * 8 ≤ 140737488355328 := by have := HRW.out; omega
                generalize hqe' : ws[k] = q at hck hwk hss
                have hqe := Lib.hid hqe'
                clear hqe'
                rcases hwk with hq | hq
                · subst hq
                  have hstep := Lib.hid (show rowF (ws.drop k) l' = (rowF (ws.drop (k + 1)) (l'.drop 1)).map fun z => (l'.headD 0 :: z.1, z.2) from by rw [List.drop_eq_getElem_cons hlt2, hqe.out]; rfl)
                  have hln : 1 ≤ l'.length := by have := hLen.out; have := hss.out; omega
                  obtain ⟨g, o, rfl, hg, hcell⟩ := hm3 (by omega)
                  have c0 := hcell 0 (by omega)
                  rw [Nat.add_zero] at c0
                  have hh := Lib.hid (show l'.headD 0 = l'[0] from by cases l' with
                    | nil => simp at hln
                    | cons a b => rfl)
                  have HCELL := Lib.hid hcell; clear hcell
                  rw [← hh.out] at c0
                  generalize l'.headD 0 = n0 at c0 hstep
                  have i1 : (1 : Int) ≤ (l'.length : Int) := by omega
                  have i2 : (l'.length : Int) ≤ (lc2 : Int) := by omega
                  by_cases hcp : lc2 = 1
                  · subst hcp
                    go_wp2_with fail
                    go_region_held3 (fun wx => Below wo.heap.size wo wx) (first | exact hbx.drew | exact hbx.drew.alloc hbxs _ | exact (hbx.drew.alloc hbxs _).grown hgrow (by simp; omega) (fun g hg => (hownR.lt g hg).1))
                      ((refine step_append_lies _ (by rfl) _ _ _ (by rfl) wo.heap.size 3 i0 _ 1 8 Tryz.underlying22 hi hz0 hz1 hz2 rfl (by omega) _ row.length (intCells row) (by rfl) ((hownR.alloc _).drew) ⟨wr.heap.size, 0, none⟩ 1 1 [.int .i64 n0] (by rfl) (by rfl) (World.news_of_block (cs := #[.int .i64 n0]) (t := 3) (fr := (0, 0)) (heap_alloc_new wr _)) (by simp [Value.oneCell']) (by omega) b1 b2 (by simp; omega) (wr.heap.size + 1) (by simp) ?_; intro gg cap w2 hown1 hgrow hat hlt))
                    all_goals
                      rename_i hSb
                      have hb6 : Below w1.heap.size wr w2 := ((Below.refl _ wr).alloc (by omega) (.cells #[.int .i64 n0] 3)).drew.grown hgrow (by simp; omega) (fun g hg => by have := (hownR.lt g hg).1; omega)
                      clear hgrow hat
                      go_wp2_with fail
                      go_roundg (gk - 1)
                      case measure => omega
                      case rel =>
                        refine ⟨k + 1, l'.drop 1, row ++ [n0], by go_num, by omega, by omega, ListAt.keeps ⟨_, 0, by first | (rw [List.length_drop]; done) | (rw [List.length_drop]; congr 1; omega), by rw [List.length_drop]; omega, by omega, ?_⟩ hb6, by have := HRW.out; simp; omega, by simpa [intCells] using hown1, ?_, ?_, fun z hz => hQ' z (List.mem_of_mem_drop hz), by simp; omega, hSb⟩
                        · exact fun h0 => absurd h0 (by simp; omega)
                        · show _ = _
                          rw [hF.out, hstep.out, Option.map_map]
                          congr 1
                          funext z
                          simp
                        · show _ = _
                          rw [List.length_drop]
                          have := hLen.out
                          have := hss.out
                          omega
                  · have i3 : (2 : Int) ≤ (lc2 : Int) := by omega
                    go_wp2_with fail
                    go_region_held3 (fun wx => Below wo.heap.size wo wx) (first | exact hbx.drew | exact hbx.drew.alloc hbxs _ | exact (hbx.drew.alloc hbxs _).grown hgrow (by simp; omega) (fun g hg => (hownR.lt g hg).1))
                      ((refine step_append_lies _ (by rfl) _ _ _ (by rfl) wo.heap.size 3 i0 _ 1 8 Tryz.underlying22 hi hz0 hz1 hz2 rfl (by omega) _ row.length (intCells row) (by rfl) ((hownR.alloc _).drew) ⟨wr.heap.size, 0, none⟩ 1 1 [.int .i64 n0] (by rfl) (by rfl) (World.news_of_block (cs := #[.int .i64 n0]) (t := 3) (fr := (0, 0)) (heap_alloc_new wr _)) (by simp [Value.oneCell']) (by omega) b1 b2 (by simp; omega) (wr.heap.size + 1) (by simp) ?_; intro gg cap w2 hown1 hgrow hat hlt))
                    all_goals
                      rename_i hSb
                      have hb6 : Below w1.heap.size wr w2 := ((Below.refl _ wr).alloc (by omega) (.cells #[.int .i64 n0] 3)).drew.grown hgrow (by simp; omega) (fun g hg => by have := (hownR.lt g hg).1; omega)
                      clear hgrow hat
                      go_wp2_with fail
                      go_roundg (gk - 1)
                      case measure => omega
                      case rel =>
                        refine ⟨k + 1, l'.drop 1, row ++ [n0], by go_num, by omega, by omega, ListAt.keeps ⟨_, lc2 - 1, by first | (rw [List.length_drop]; done) | (rw [List.length_drop]; congr 1; omega), by rw [List.length_drop]; omega, by omega, ?_⟩ hb6, by have := HRW.out; simp; omega, by simpa [intCells] using hown1, ?_, ?_, fun z hz => hQ' z (List.mem_of_mem_drop hz), by simp; omega, hSb⟩
                        · exact fun h0 => ⟨g, o + 1, rfl, hg, fun i hi => by have := HCELL.out (i + 1) (by simp at hi; omega); rw [show o + (i + 1) = o + 1 + i from by omega] at this; simpa [List.getElem_drop, Nat.add_comm] using this⟩
                        · show _ = _
                          rw [hF.out, hstep.out, Option.map_map]
                          congr 1
                          funext z
                          simp
                        · show _ = _
                          rw [List.length_drop]
                          have := hLen.out
                          have := hss.out
                          omega
                · subst hq
                  have hln : 2 ≤ l'.length := by have := hLen.out; have := hss.out; omega
                  obtain ⟨g, o, rfl, hg, hcell⟩ := hm3 (by omega)
                  have c0 := hcell 0 (by omega)
                  have c1 := hcell 1 (by omega)
                  rw [Nat.add_zero] at c0
                  have hh : l'.headD 0 = l'[0] := by cases l' with
                    | nil => simp at hln
                    | cons a b => rfl
                  have hh1 : l'.getD 1 0 = l'[1] := by simp [List.getD, List.getElem?_eq_getElem (show 1 < l'.length by omega)]
                  have hq0 := hQ' l'[0] (List.getElem_mem _)
                  have hq1 := hQ' l'[1] (List.getElem_mem _)
                  have hst : rowF (ws.drop k) l' = if 1073741823 < l'.headD 0 then none else (rowF (ws.drop (k + 1)) (l'.drop 2)).map fun z => ((l'.headD 0 * 4294967296 + l'.getD 1 0) :: z.1, z.2) := by
                    rw [List.drop_eq_getElem_cons hlt2, hqe.out]; rfl
                  rw [hh, hh1] at hst
                  have HCELL := Lib.hid hcell; clear hcell
                  clear hh hh1
                  generalize l'[0] = n0 at c0 hst hq0
                  generalize l'[1] = n1 at c1 hst hq1
                  obtain ⟨n00, n01⟩ := hq0
                  obtain ⟨n10, n11⟩ := hq1
                  have i1 : (2 : Int) ≤ (l'.length : Int) := by omega
                  have i2 : (l'.length : Int) ≤ (lc2 : Int) := by omega
                  by_cases hbig : 1073741823 < n0
                  · rw [if_pos hbig] at hst
                    have hE := Lib.hid (show rowsT v ws = ([], 2) from by rw [hR.out, hRF2.out, hF.out, hst]; rfl)
                    clear hst
                    go_wp2_with fail
                    go_ret2
                    exact ⟨.slice none 0 0, by rw [hE.out]; rfl, by rw [hE.out]; exact rowsAt_nil _ _, (hb1.trans (hbw.mono hb1s)).trans (hbx.mono (by omega))⟩
                  · rw [if_neg hbig] at hst
                    have hstep := Lib.hid hst
                    clear hst
                    have hsmall : n0 ≤ 1073741823 := by omega
                    obtain ⟨hshl, hor⟩ := or_wide n0 n1 n00 hsmall n10 n11
                    clear hbig
                    by_cases hcp : lc2 = 2
                    · subst hcp
                      go_wp2_with fail
                      go_region_held3 (fun wx => Below wo.heap.size wo wx) (first | exact hbx.drew | exact hbx.drew.alloc hbxs _ | exact (hbx.drew.alloc hbxs _).grown hgrow (by simp; omega) (fun g hg => (hownR.lt g hg).1))
                        ((refine step_append_lies _ (by rfl) _ _ _ (by rfl) wo.heap.size 3 i0 _ 1 8 Tryz.underlying22 hi hz0 hz1 hz2 rfl (by omega) _ row.length (intCells row) (by rfl) ((hownR.alloc _).drew) ⟨wr.heap.size, 0, none⟩ 1 1 [.int .i64 (n0 * 4294967296 + n1)] (by rfl) (by rfl) (World.news_of_block (cs := #[.int .i64 (n0 * 4294967296 + n1)]) (t := 3) (fr := (0, 0)) (heap_alloc_new wr _)) (by simp [Value.oneCell']) (by omega) b1 b2 (by simp; omega) (wr.heap.size + 1) (by simp) ?_; intro gg cap w2 hown1 hgrow hat hlt))
                      all_goals
                        rename_i hSb
                        have hb6 : Below w1.heap.size wr w2 := ((Below.refl _ wr).alloc (by omega) (.cells #[.int .i64 (n0 * 4294967296 + n1)] 3)).drew.grown hgrow (by simp; omega) (fun g hg => by have := (hownR.lt g hg).1; omega)
                        clear hgrow hat
                        go_wp2_with fail
                        go_roundg (gk - 1)
                        case measure => omega
                        case rel =>
                          refine ⟨k + 1, l'.drop 2, row ++ [n0 * 4294967296 + n1], by go_num, by omega, by omega, ListAt.keeps ⟨_, 0, by first | (rw [List.length_drop]; done) | (rw [List.length_drop]; congr 1; omega), by rw [List.length_drop]; omega, by omega, ?_⟩ hb6, by have := HRW.out; simp; omega, by simpa [intCells] using hown1, ?_, ?_, fun z hz => hQ' z (List.mem_of_mem_drop hz), by simp; omega, hSb⟩
                          · exact fun h0 => absurd h0 (by simp; omega)
                          · show _ = _
                            rw [hF.out, hstep.out, Option.map_map]
                            congr 1
                            funext z
                            simp
                          · show _ = _
                            rw [List.length_drop]
                            have := hLen.out
                            have := hss.out
                            omega
                    · have i3 : (3 : Int) ≤ (lc2 : Int) := by omega
                      go_wp2_with fail
                      go_region_held3 (fun wx => Below wo.heap.size wo wx) (first | exact hbx.drew | exact hbx.drew.alloc hbxs _ | exact (hbx.drew.alloc hbxs _).grown hgrow (by simp; omega) (fun g hg => (hownR.lt g hg).1))
                        ((refine step_append_lies _ (by rfl) _ _ _ (by rfl) wo.heap.size 3 i0 _ 1 8 Tryz.underlying22 hi hz0 hz1 hz2 rfl (by omega) _ row.length (intCells row) (by rfl) ((hownR.alloc _).drew) ⟨wr.heap.size, 0, none⟩ 1 1 [.int .i64 (n0 * 4294967296 + n1)] (by rfl) (by rfl) (World.news_of_block (cs := #[.int .i64 (n0 * 4294967296 + n1)]) (t := 3) (fr := (0, 0)) (heap_alloc_new wr _)) (by simp [Value.oneCell']) (by omega) b1 b2 (by simp; omega) (wr.heap.size + 1) (by simp) ?_; intro gg cap w2 hown1 hgrow hat hlt))
                      all_goals
                        rename_i hSb
                        have hb6 : Below w1.heap.size wr w2 := ((Below.refl _ wr).alloc (by omega) (.cells #[.int .i64 (n0 * 4294967296 + n1)] 3)).drew.grown hgrow (by simp; omega) (fun g hg => by have := (hownR.lt g hg).1; omega)
                        clear hgrow hat
                        go_wp2_with fail
                        go_roundg (gk - 1)
                        case measure => omega
                        case rel =>
                          refine ⟨k + 1, l'.drop 2, row ++ [n0 * 4294967296 + n1], by go_num, by omega, by omega, ListAt.keeps ⟨_, lc2 - 2, by first | (rw [List.length_drop]; done) | (rw [List.length_drop]; congr 1; omega), by rw [List.length_drop]; omega, by omega, ?_⟩ hb6, by have := HRW.out; simp; omega, by simpa [intCells] using hown1, ?_, ?_, fun z hz => hQ' z (List.mem_of_mem_drop hz), by simp; omega, hSb⟩
                          · exact fun h0 => ⟨g, o + 2, rfl, hg, fun i hi => by have := HCELL.out (i + 2) (by simp at hi; omega); rw [show o + (i + 2) = o + 2 + i from by omega] at this; simpa [List.getElem_drop, Nat.add_comm] using this⟩
                          · show _ = _
                            rw [hF.out, hstep.out, Option.map_map]
                            congr 1
                            funext z
                            simp
                          · show _ = _
                            rw [List.length_drop]
                            have := hLen.out
                            have := hss.out
                            omega
              · have hkE : k = ws.length := by omega
                have hFE := Lib.hid (show rowF ws l = some (row, l') from by rw [hF.out, hkE, List.drop_length]; simp [rowF])
                have hRF3 : Hid (rowsF ws L.length L = (rowsF ws fl l').map ((rs ++ [row]) ++ ·)) := by
                  show _ = _
                  rw [hRF2.out, hFE.out]
                  simp only [Option.bind_some, Option.map_map]
                  congr 1
                  funext y
                  simp
                have hLE := Lib.hid (show (l'.length : Int) = l.length - s from by rw [hLen.out, hkE, List.drop_length]; simp [sumT])
                clear hF hLen hkE
                obtain ⟨ra, rc, rfl⟩ := owns_slice hownR
                have HR := Lib.hid hownR
                clear hownR
                have hOx := ownsRow_keeps hOut.out (Keeps.of_fresh hbx (fun _ => False)) (fun _ _ e => e)
                have hrs : rs.length ≤ 1000 := by omega
                obtain ⟨i0, hi, hz0, hz1, hz2⟩ := info_parts infoRow
                have hOy := Lib.hid hOx
                go_wp2_with (at_builtin; refine wpList_append_own _ rfl _ _ 113 rfl w1.heap.size 22 i0 _ 1 24 Tryz.underlying113 hi hz0 hz1 hz2 rfl (by decide) _ _ _ rfl (hOx.alloc _) ⟨wr.heap.size, 0, none⟩ 1 1 [.slice ra row.length rc] rfl rfl ?c1 ?c2 ?c3 ?c4 ?c5 ?_)
                case c1 => exact new_cells wr #[.slice ra row.length rc] 22 _ rfl [.slice ra row.length rc] rfl
                case c2 => simp [Value.oneCell']
                case c3 => unfold maxLen; omega
                case c4 => omega
                case c5 => simp; omega
                intro v' w3 hown' hgrow _
                have hKw : Keeps (fun _ => False) wo (wr.alloc (.cells #[.slice ra row.length rc] 22)) := (Keeps.of_fresh hbx (fun _ => False)).alloc _
                have hOz := hOx.alloc (.cells #[.slice ra row.length rc] 22)
                have hRz := HR.out.alloc (.cells #[.slice ra row.length rc] 22)
                have hrows : RowsAt w3 w1.heap.size v' (rs ++ [row]) := by
                  refine ⟨rvs ++ [.slice ra row.length rc], by simpa using hown', by simp [hrl1], ?_⟩
                  intro i hi1 hi2
                  by_cases hir : i < rs.length
                  · have e1 : (rs ++ [row])[i] = rs[i] := List.getElem_append_left hir
                    have e2 : (rvs ++ [Value.slice ra row.length rc])[i] = rvs[i]'(by omega) := List.getElem_append_left (by omega)
                    rw [e1, e2]
                    have h1 := ownsRow_keeps (HRL.out i hir (by omega)) hKw (fun _ _ e => e)
                    exact h1.kept hgrow (owns_apart h1 hOz (by decide))
                  · have hie : i = rs.length := by simp at hi1; omega
                    subst hie
                    have e1 : (rs ++ [row])[rs.length] = row := by simp
                    have e2 : (rvs ++ [Value.slice ra row.length rc])[rs.length] = .slice ra row.length rc := by
                      have : rs.length = rvs.length := hrl1.symm
                      simp [this]
                    rw [e1, e2]
                    exact ownsRow_base' (hRz.kept hgrow (owns_apart hRz hOz (by decide))) hbws
                have hb4 : Below w1.heap.size w1 w3 := ((hbw.trans (hbx.mono hbws)).alloc (by omega) _).grown hgrow (by simp; omega) (fun g hg => (hOz.lt g hg).1)
                have hb5 : Below w1.heap.size wr w3 := ((Below.refl _ wr).alloc (by omega) _).grown hgrow (by simp; omega) (fun g hg => (hOz.lt g hg).1)
                clear hOx hOz hRz hKw hgrow hown'
                go_wp2_with fail
                go_roundg (go - 1)
                case measure => omega
                case rel =>
                  refine ⟨l', rs ++ [row], fl, ListAt.keeps ⟨la2, lc2, rfl, hm1, hm2, hm3⟩ hb5, hQ', ?_, hrows, hRF3, by have := hLE.out; omega, by have := hLE.out; omega, by have := hLE.out; simp; omega, hb4⟩
                  · obtain ⟨m, hm⟩ := hM.out
                    refine ⟨m - 1, ?_⟩
                    rw [hLE.out, hm, Int.mul_sub]; omega
          · have hE := Lib.hid (show rowsT v ws = (rs, 0) from by
              have hl0 : l = [] := List.length_eq_zero_iff.1 (by omega)
              rw [hR.out, hRF.out, hl0]
              cases fl <;> simp [rowsF, rowsE])
            go_wp2_with fail
            go_ret2
            refine ⟨_, by rw [hE.out]; rfl, ?_, hb1.trans (hbw.mono hb1s)⟩
            rw [hE.out]
            exact ⟨rvs, ownsRow_base' hown hb1s, hrl1, fun i h h2 => ownsRow_base' (HRL.out i h h2) hb1s⟩
      · have hmb : (((v.size : Int) % (4 * s)) != 0) = true := by rw [bne_iff_ne]; exact hmod
        have hR := Lib.hid (show rowsT v ws = ([], 26) from by unfold rowsT; rw [if_pos (by rw [← HSE.out]; exact hmod)])
        clear hmod
        go_wp2_with fail
        go_ret2
        exact ⟨.slice none 0 0, by rw [hR.out]; rfl, by rw [hR.out]; exact rowsAt_nil _ _, Below.refl _ _⟩
end Go.Proofs.YthkoaakicdhnpaaGreat

namespace Go.Proofs.YthkoaakicdhnpaaGreat
open Go.RowKit

noncomputable def r7cOps : Array Oper := (regOps (Tryz.f75.body.getD .skip) 7).getD #[]
theorem r7cR : inRow2 .any r7cOps = true := by kernel_rfl
theorem r7cRa : apartB r7cOps = true := by kernel_rfl
theorem r7cRn : r7cOps.size = 29 := by kernel_rfl
def R7cF (base i : Nat) (s : ByteArray) (b0 b1 b2 b3 : Int) (W33 W40 W46 : Int) (xs : List Value) (n : Nat) (v : Value) (j : Nat) : Value → World → Prop := match j with
  | 0 => fun u _ => u = v
  | 1 => fun u _ => u = .string s
  | 2 => fun u _ => u = .int .i64 i
  | 3 => fun u _ => u = .int .u8 b0
  | 4 => fun u _ => u = .int .i64 b0
  | 5 => fun u _ => u = .int .i64 (b0 * 16777216)
  | 6 => fun u _ => u = .string s
  | 7 => fun u _ => u = .int .i64 i
  | 8 => fun u _ => u = .int .i64 ((i + 1 : Nat) : Int)
  | 9 => fun u _ => u = .int .u8 b1
  | 10 => fun u _ => u = .int .i64 b1
  | 11 => fun u _ => u = .int .i64 (b1 * 65536)
  | 12 => fun u _ => u = .int .i64 W33
  | 13 => fun u _ => u = .string s
  | 14 => fun u _ => u = .int .i64 i
  | 15 => fun u _ => u = .int .i64 ((i + 2 : Nat) : Int)
  | 16 => fun u _ => u = .int .u8 b2
  | 17 => fun u _ => u = .int .i64 b2
  | 18 => fun u _ => u = .int .i64 (b2 * 256)
  | 19 => fun u _ => u = .int .i64 W40
  | 20 => fun u _ => u = .string s
  | 21 => fun u _ => u = .int .i64 i
  | 22 => fun u _ => u = .int .i64 ((i + 3 : Nat) : Int)
  | 23 => fun u _ => u = .int .u8 b3
  | 24 => fun u _ => u = .int .i64 b3
  | 25 => fun u _ => u = .int .i64 W46
  | 26 => fun u w => ∃ N, u = .slice (some ⟨N, 0, none⟩) 1 1 ∧ Holds w N ([.int .i64 W46] : List Value).toArray 3 ∧ (v : Value).ownBlock ≠ some N
  | 27 => fun u w => ∃ g' c', u = (.slice (some ⟨g', 0, none⟩) (n + 1) c') ∧ w.ownsRow base 3 1 (.slice (some ⟨g', 0, none⟩) (n + 1) c') (n + 1) (xs ++ ([.int .i64 W46] : List Value))
  | 28 => fun u w => ∃ g' c', u = (.slice (some ⟨g', 0, none⟩) (n + 1) c') ∧ w.ownsRow base 3 1 (.slice (some ⟨g', 0, none⟩) (n + 1) c') (n + 1) (xs ++ ([.int .i64 W46] : List Value))
  | _ => fun _ _ => True
def R7cX (base _ : Nat) (_ : ByteArray) (_ _ _ _ : Int) (_ _ _ : Int) (xs : List Value) (n : Nat) (v : Value) (l : Array Bool) (w : World) : Prop := (l.getD 27 false = false → w.ownsRow base 3 1 (v) n (xs))
section
variable {base i : Nat} {s : ByteArray} {b0 b1 b2 b3 : Int} {W33 W40 W46 : Int} {xs : List Value} {n : Nat} {v : Value} {w w' : World} {j : Nat} {u : Value}
theorem R7cF.new (h : R7cF base i s b0 b1 b2 b3 W33 W40 W46 xs n v j u w) (kb : Below w.heap.size w w') : R7cF base i s b0 b1 b2 b3 W33 W40 W46 xs n v j u w' := by
  unfold R7cF at *
  have kk := Keeps.of_fresh kb (fun _ => False)
  split at h
  all_goals first
    | exact h
    | (obtain ⟨N, e, hN, r⟩ := h; exact ⟨N, e, hN.keeps kk (fun e => e), r⟩)
    | (obtain ⟨g', c', e, hr⟩ := h; exact ⟨g', c', e, row_new hr kb⟩)
theorem R7cF.grow0 (h : R7cF base i s b0 b1 b2 b3 W33 W40 W46 xs n v j u w) (_ : w.ownsRow base 3 1 (v) n (xs)) (k : w.grownBy w' (v : Value).ownBlock) (h10 : j ≠ 27) (h12 : j ≠ 28) : R7cF base i s b0 b1 b2 b3 W33 W40 W46 xs n v j u w' := by
  unfold R7cF at *
  split at h
  all_goals first
    | exact absurd rfl h10
    | exact absurd rfl h12
    | exact h
    | (obtain ⟨N, e, hN, r⟩ := h; exact ⟨N, e, hN.grown k (r), r⟩)
end

set_option maxHeartbeats 4000000 in
set_option maxRecDepth 100000 in
theorem r7c_region {Q : Exit → Act → World → Prop} (base i : Nat) (s : ByteArray) (b0 b1 b2 b3 : Int) (W33 W40 W46 : Int) (xs : List Value) (n : Nat) (v : Value) (B0 : Nat) (W w : World) (A : Act) (hsz : A.tmps.size = 50) (hB0 : B0 ≤ W.heap.size) (hrb0 : B0 ≤ base) (hbase0 : base ≤ W.heap.size) (hn0 : n ≤ 1000000) (q3 : i + 3 < s.size) (hs : s.size ≤ 1000000) (hb0 : ((s[i]'(by omega)).toNat : Int) = b0) (hb1 : ((s[i + 1]'(by omega)).toNat : Int) = b1) (hb2 : ((s[i + 2]'(by omega)).toNat : Int) = b2) (hb3 : ((s[i + 3]'(by omega)).toNat : Int) = b3) (h33 : bits .or .i64 (b0 * 16777216) (b1 * 65536) = W33) (h40 : bits .or .i64 W33 (b2 * 256) = W40) (h46 : bits .or .i64 W40 b3 = W46)
    (a0 : A.tmps.getD 0 undef = .string s) (a5 : A.tmps.getD 5 undef = .int .i64 i) (a4 : A.tmps.getD 4 undef = v)
    (hS : Below B0 W w) (hR0 : w.ownsRow base 3 1 (v) n (xs))
    (hQ : ∀ c w' v0, SameBut r7cOps A c → Below B0 W w' → c.tmps.getD 4 undef = v0 → w'.ownsRow base 3 1 v0 (n + 1) (xs ++ ([.int .i64 W46] : List Value)) → Q .normal c w') :
    wpAny Tryz.prog .any r7cOps Q r7cOps.size (Array.replicate r7cOps.size false) A w := by
  refine wpAny_inv2 (fun l c wx => RInv r7cOps A (R7cF base i s b0 b1 b2 b3 W33 W40 W46 xs n v) (fun wx => Below B0 W wx) l c wx ∧ Fresh r7cOps A l c ∧ R7cX base i s b0 b1 b2 b3 W33 W40 W46 xs n v l wx) r7cR ?hend ?hstep _ _ _ _ (by simp) (by simp) ⟨RInv.start hS, fun _ _ _ _ => rfl, fun _ => hR0⟩
  case hend =>
    intro l c wx hI hl
    have hh : ∀ k, k < 29 → l.getD k false = true := fun k hk => hl k (by rw [r7cRn]; exact hk)
    obtain ⟨g0, c0, h0, r0⟩ : ∃ g' c', c.tmps.getD 4 undef = (.slice (some ⟨g', 0, none⟩) (n + 1) c') ∧ wx.ownsRow base 3 1 (.slice (some ⟨g', 0, none⟩) (n + 1) c') (n + 1) (xs ++ ([.int .i64 W46] : List Value)) := hI.1.fact 28 4 rfl (hh 28 (by decide))
    exact hQ c wx _ hI.1.1 hI.1.2.1 h0 r0 
  intro l c wx hI i' op ho hl hall K' hK'
  have hi13 : i' < 29 := by rw [← r7cRn]; exact (Array.getElem?_eq_some_iff.1 ho).1
  simp only [r7cOps, regOps, Tryz.f75, Option.getD_some, reduceIte, Nat.reduceEqDiff] at ho
  have hS := hI.1.2.1
  have hBs : B0 ≤ wx.heap.size := Nat.le_trans hB0 hS.size
  have hWs : W.heap.size ≤ wx.heap.size := hS.size
  have s0 := (hI.1.slot 0 (by kernel_rfl)).trans a0
  have s5 := (hI.1.slot 5 (by kernel_rfl)).trans a5
  simp only [Array.getD_eq_getD_getElem?] at s0 s5
  have q0 : i < s.size := by omega
  have n1 : ((i : Int) + 1).toNat = i + 1 := by omega
  have n2 : ((i : Int) + 2).toNat = i + 2 := by omega
  have n3 : ((i : Int) + 3).toNat = i + 3 := by omega
  have u1 : (0 : Int) ≤ (i : Int) + 1 := by omega
  have v1 : (i : Int) + 1 < (s.size : Int) := by omega
  have u2 : (0 : Int) ≤ (i : Int) + 2 := by omega
  have v2 : (i : Int) + 2 < (s.size : Int) := by omega
  have u3 : (0 : Int) ≤ (i : Int) + 3 := by omega
  have v3 : (i : Int) + 3 < (s.size : Int) := by omega
  have q1 : i + 1 < s.size := by omega
  have q2 : i + 2 < s.size := by omega
  have w1 : IntKind.i64.wrap ((i : Int) + 1) = ((i + 1 : Nat) : Int) := by rw [show ((i + 1 : Nat) : Int) = (i : Int) + 1 from by omega]; exact IntWalk.i64_in _ (by omega)
  have w2 : IntKind.i64.wrap ((i : Int) + 2) = ((i + 2 : Nat) : Int) := by rw [show ((i + 2 : Nat) : Int) = (i : Int) + 2 from by omega]; exact IntWalk.i64_in _ (by omega)
  have w3 : IntKind.i64.wrap ((i : Int) + 3) = ((i + 3 : Nat) : Int) := by rw [show ((i + 3 : Nat) : Int) = (i : Int) + 3 from by omega]; exact IntWalk.i64_in _ (by omega)
  have t0 : 0 ≤ b0 ∧ b0 ≤ 255 := by have := (s[i]'(by omega)).toNat_lt; omega
  have t1 : 0 ≤ b1 ∧ b1 ≤ 255 := by have := (s[i + 1]'(by omega)).toNat_lt; omega
  have t2 : 0 ≤ b2 ∧ b2 ≤ 255 := by have := (s[i + 2]'(by omega)).toNat_lt; omega
  have t3 : 0 ≤ b3 ∧ b3 ≤ 255 := by have := (s[i + 3]'(by omega)).toNat_lt; omega
  have wb0 : IntKind.i64.wrap b0 = b0 := IntWalk.i64_in _ (by omega)
  have wb1 : IntKind.i64.wrap b1 = b1 := IntWalk.i64_in _ (by omega)
  have wb2 : IntKind.i64.wrap b2 = b2 := IntWalk.i64_in _ (by omega)
  have wb3 : IntKind.i64.wrap b3 = b3 := IntWalk.i64_in _ (by omega)
  have wm0 : IntKind.i64.wrap (b0 * 16777216) = b0 * 16777216 := IntWalk.i64_in _ (by omega)
  have wm1 : IntKind.i64.wrap (b1 * 65536) = b1 * 65536 := IntWalk.i64_in _ (by omega)
  have wm2 : IntKind.i64.wrap (b2 * 256) = b2 * 256 := IntWalk.i64_in _ (by omega)
  have hic : i' = 0 ∨ i' = 1 ∨ i' = 2 ∨ i' = 3 ∨ i' = 4 ∨ i' = 5 ∨ i' = 6 ∨ i' = 7 ∨ i' = 8 ∨ i' = 9 ∨ i' = 10 ∨ i' = 11 ∨ i' = 12 ∨ i' = 13 ∨ i' = 14 ∨ i' = 15 ∨ i' = 16 ∨ i' = 17 ∨ i' = 18 ∨ i' = 19 ∨ i' = 20 ∨ i' = 21 ∨ i' = 22 ∨ i' = 23 ∨ i' = 24 ∨ i' = 25 ∨ i' = 26 ∨ i' = 27 ∨ i' = 28 := by omega
  rcases hic with rfl | rfl | rfl | rfl | rfl | rfl | rfl | rfl | rfl | rfl | rfl | rfl | rfl | rfl | rfl | rfl | rfl | rfl | rfl | rfl | rfl | rfl | rfl | rfl | rfl | rfl | rfl | rfl | rfl
  all_goals cases ho
  · have so := (hI.2.1 28 4 rfl (hI.1.2.2.1.2.unlisted (hI.1.2.2.1.2.unlisted hl (j := 27) (by kernel_rfl)) (j := 28) (by kernel_rfl))).trans a4
    simp only [Array.getD_eq_getD_getElem?] at so
    go_simp
    exact hK' _ _ ⟨hI.1.stepL r7cRa 0 21 rfl (by rw [hsz]; decide) _ _ rfl hall hS (fun _ _ _ h => h) rfl, hI.2.1.put r7cRa 0 21 rfl (by rw [hI.1.1.1, hsz]; decide) _ (by rw [hI.1.2.2.1.1]; exact dst_lt (show dstOf r7cOps 0 = some 21 from rfl)), (fun e => hI.2.2 (listed_set e))⟩
  · go_simp
    exact hK' _ _ ⟨hI.1.stepL r7cRa 1 22 rfl (by rw [hsz]; decide) _ _ rfl hall hS (fun _ _ _ h => h) rfl, hI.2.1.put r7cRa 1 22 rfl (by rw [hI.1.1.1, hsz]; decide) _ (by rw [hI.1.2.2.1.1]; exact dst_lt (show dstOf r7cOps 1 = some 22 from rfl)), (fun e => hI.2.2 (listed_set e))⟩
  · go_simp
    exact hK' _ _ ⟨hI.1.stepL r7cRa 2 23 rfl (by rw [hsz]; decide) _ _ rfl hall hS (fun _ _ _ h => h) rfl, hI.2.1.put r7cRa 2 23 rfl (by rw [hI.1.1.1, hsz]; decide) _ (by rw [hI.1.2.2.1.1]; exact dst_lt (show dstOf r7cOps 2 = some 23 from rfl)), (fun e => hI.2.2 (listed_set e))⟩
  · have e1 : c.tmps.getD 22 undef = .string s := hI.1.fact 1 22 rfl (listed hall 1 (by kernel_rfl))
    have f1 := e1
    simp only [Array.getD_eq_getD_getElem?] at e1
    have e2 : c.tmps.getD 23 undef = .int .i64 i := hI.1.fact 2 23 rfl (listed hall 2 (by kernel_rfl))
    have f2 := e2
    simp only [Array.getD_eq_getD_getElem?] at e2
    go_simp
    exact hK' _ _ ⟨hI.1.stepL r7cRa 3 24 rfl (by rw [hsz]; decide) _ _ rfl hall hS (fun _ _ _ h => h) rfl, hI.2.1.put r7cRa 3 24 rfl (by rw [hI.1.1.1, hsz]; decide) _ (by rw [hI.1.2.2.1.1]; exact dst_lt (show dstOf r7cOps 3 = some 24 from rfl)), (fun e => hI.2.2 (listed_set e))⟩
  · have e3 : c.tmps.getD 24 undef = .int .u8 b0 := hI.1.fact 3 24 rfl (listed hall 3 (by kernel_rfl))
    have f3 := e3
    simp only [Array.getD_eq_getD_getElem?] at e3
    go_simp
    exact hK' _ _ ⟨hI.1.stepL r7cRa 4 25 rfl (by rw [hsz]; decide) _ _ rfl hall hS (fun _ _ _ h => h) rfl, hI.2.1.put r7cRa 4 25 rfl (by rw [hI.1.1.1, hsz]; decide) _ (by rw [hI.1.2.2.1.1]; exact dst_lt (show dstOf r7cOps 4 = some 25 from rfl)), (fun e => hI.2.2 (listed_set e))⟩
  · have e4 : c.tmps.getD 25 undef = .int .i64 b0 := hI.1.fact 4 25 rfl (listed hall 4 (by kernel_rfl))
    have f4 := e4
    simp only [Array.getD_eq_getD_getElem?] at e4
    go_simp
    exact hK' _ _ ⟨hI.1.stepL r7cRa 5 26 rfl (by rw [hsz]; decide) _ _ rfl hall hS (fun _ _ _ h => h) rfl, hI.2.1.put r7cRa 5 26 rfl (by rw [hI.1.1.1, hsz]; decide) _ (by rw [hI.1.2.2.1.1]; exact dst_lt (show dstOf r7cOps 5 = some 26 from rfl)), (fun e => hI.2.2 (listed_set e))⟩
  · go_simp
    exact hK' _ _ ⟨hI.1.stepL r7cRa 6 27 rfl (by rw [hsz]; decide) _ _ rfl hall hS (fun _ _ _ h => h) rfl, hI.2.1.put r7cRa 6 27 rfl (by rw [hI.1.1.1, hsz]; decide) _ (by rw [hI.1.2.2.1.1]; exact dst_lt (show dstOf r7cOps 6 = some 27 from rfl)), (fun e => hI.2.2 (listed_set e))⟩
  · go_simp
    exact hK' _ _ ⟨hI.1.stepL r7cRa 7 28 rfl (by rw [hsz]; decide) _ _ rfl hall hS (fun _ _ _ h => h) rfl, hI.2.1.put r7cRa 7 28 rfl (by rw [hI.1.1.1, hsz]; decide) _ (by rw [hI.1.2.2.1.1]; exact dst_lt (show dstOf r7cOps 7 = some 28 from rfl)), (fun e => hI.2.2 (listed_set e))⟩
  · have e7 : c.tmps.getD 28 undef = .int .i64 i := hI.1.fact 7 28 rfl (listed hall 7 (by kernel_rfl))
    have f7 := e7
    simp only [Array.getD_eq_getD_getElem?] at e7
    go_simp
    exact hK' _ _ ⟨hI.1.stepL r7cRa 8 29 rfl (by rw [hsz]; decide) _ _ rfl hall hS (fun _ _ _ h => h) rfl, hI.2.1.put r7cRa 8 29 rfl (by rw [hI.1.1.1, hsz]; decide) _ (by rw [hI.1.2.2.1.1]; exact dst_lt (show dstOf r7cOps 8 = some 29 from rfl)), (fun e => hI.2.2 (listed_set e))⟩
  · have e6 : c.tmps.getD 27 undef = .string s := hI.1.fact 6 27 rfl (listed hall 6 (by kernel_rfl))
    have f6 := e6
    simp only [Array.getD_eq_getD_getElem?] at e6
    have e8 : c.tmps.getD 29 undef = .int .i64 ((i + 1 : Nat) : Int) := hI.1.fact 8 29 rfl (listed hall 8 (by kernel_rfl))
    have f8 := e8
    simp only [Array.getD_eq_getD_getElem?] at e8
    go_simp
    exact hK' _ _ ⟨hI.1.stepL r7cRa 9 30 rfl (by rw [hsz]; decide) _ _ rfl hall hS (fun _ _ _ h => h) rfl, hI.2.1.put r7cRa 9 30 rfl (by rw [hI.1.1.1, hsz]; decide) _ (by rw [hI.1.2.2.1.1]; exact dst_lt (show dstOf r7cOps 9 = some 30 from rfl)), (fun e => hI.2.2 (listed_set e))⟩
  · have e9 : c.tmps.getD 30 undef = .int .u8 b1 := hI.1.fact 9 30 rfl (listed hall 9 (by kernel_rfl))
    have f9 := e9
    simp only [Array.getD_eq_getD_getElem?] at e9
    go_simp
    exact hK' _ _ ⟨hI.1.stepL r7cRa 10 31 rfl (by rw [hsz]; decide) _ _ rfl hall hS (fun _ _ _ h => h) rfl, hI.2.1.put r7cRa 10 31 rfl (by rw [hI.1.1.1, hsz]; decide) _ (by rw [hI.1.2.2.1.1]; exact dst_lt (show dstOf r7cOps 10 = some 31 from rfl)), (fun e => hI.2.2 (listed_set e))⟩
  · have e10 : c.tmps.getD 31 undef = .int .i64 b1 := hI.1.fact 10 31 rfl (listed hall 10 (by kernel_rfl))
    have f10 := e10
    simp only [Array.getD_eq_getD_getElem?] at e10
    go_simp
    exact hK' _ _ ⟨hI.1.stepL r7cRa 11 32 rfl (by rw [hsz]; decide) _ _ rfl hall hS (fun _ _ _ h => h) rfl, hI.2.1.put r7cRa 11 32 rfl (by rw [hI.1.1.1, hsz]; decide) _ (by rw [hI.1.2.2.1.1]; exact dst_lt (show dstOf r7cOps 11 = some 32 from rfl)), (fun e => hI.2.2 (listed_set e))⟩
  · have e5 : c.tmps.getD 26 undef = .int .i64 (b0 * 16777216) := hI.1.fact 5 26 rfl (listed hall 5 (by kernel_rfl))
    have f5 := e5
    simp only [Array.getD_eq_getD_getElem?] at e5
    have e11 : c.tmps.getD 32 undef = .int .i64 (b1 * 65536) := hI.1.fact 11 32 rfl (listed hall 11 (by kernel_rfl))
    have f11 := e11
    simp only [Array.getD_eq_getD_getElem?] at e11
    go_simp
    exact hK' _ _ ⟨hI.1.stepL r7cRa 12 33 rfl (by rw [hsz]; decide) _ _ rfl hall hS (fun _ _ _ h => h) rfl, hI.2.1.put r7cRa 12 33 rfl (by rw [hI.1.1.1, hsz]; decide) _ (by rw [hI.1.2.2.1.1]; exact dst_lt (show dstOf r7cOps 12 = some 33 from rfl)), (fun e => hI.2.2 (listed_set e))⟩
  · go_simp
    exact hK' _ _ ⟨hI.1.stepL r7cRa 13 34 rfl (by rw [hsz]; decide) _ _ rfl hall hS (fun _ _ _ h => h) rfl, hI.2.1.put r7cRa 13 34 rfl (by rw [hI.1.1.1, hsz]; decide) _ (by rw [hI.1.2.2.1.1]; exact dst_lt (show dstOf r7cOps 13 = some 34 from rfl)), (fun e => hI.2.2 (listed_set e))⟩
  · go_simp
    exact hK' _ _ ⟨hI.1.stepL r7cRa 14 35 rfl (by rw [hsz]; decide) _ _ rfl hall hS (fun _ _ _ h => h) rfl, hI.2.1.put r7cRa 14 35 rfl (by rw [hI.1.1.1, hsz]; decide) _ (by rw [hI.1.2.2.1.1]; exact dst_lt (show dstOf r7cOps 14 = some 35 from rfl)), (fun e => hI.2.2 (listed_set e))⟩
  · have e14 : c.tmps.getD 35 undef = .int .i64 i := hI.1.fact 14 35 rfl (listed hall 14 (by kernel_rfl))
    have f14 := e14
    simp only [Array.getD_eq_getD_getElem?] at e14
    go_simp
    exact hK' _ _ ⟨hI.1.stepL r7cRa 15 36 rfl (by rw [hsz]; decide) _ _ rfl hall hS (fun _ _ _ h => h) rfl, hI.2.1.put r7cRa 15 36 rfl (by rw [hI.1.1.1, hsz]; decide) _ (by rw [hI.1.2.2.1.1]; exact dst_lt (show dstOf r7cOps 15 = some 36 from rfl)), (fun e => hI.2.2 (listed_set e))⟩
  · have e13 : c.tmps.getD 34 undef = .string s := hI.1.fact 13 34 rfl (listed hall 13 (by kernel_rfl))
    have f13 := e13
    simp only [Array.getD_eq_getD_getElem?] at e13
    have e15 : c.tmps.getD 36 undef = .int .i64 ((i + 2 : Nat) : Int) := hI.1.fact 15 36 rfl (listed hall 15 (by kernel_rfl))
    have f15 := e15
    simp only [Array.getD_eq_getD_getElem?] at e15
    go_simp
    exact hK' _ _ ⟨hI.1.stepL r7cRa 16 37 rfl (by rw [hsz]; decide) _ _ rfl hall hS (fun _ _ _ h => h) rfl, hI.2.1.put r7cRa 16 37 rfl (by rw [hI.1.1.1, hsz]; decide) _ (by rw [hI.1.2.2.1.1]; exact dst_lt (show dstOf r7cOps 16 = some 37 from rfl)), (fun e => hI.2.2 (listed_set e))⟩
  · have e16 : c.tmps.getD 37 undef = .int .u8 b2 := hI.1.fact 16 37 rfl (listed hall 16 (by kernel_rfl))
    have f16 := e16
    simp only [Array.getD_eq_getD_getElem?] at e16
    go_simp
    exact hK' _ _ ⟨hI.1.stepL r7cRa 17 38 rfl (by rw [hsz]; decide) _ _ rfl hall hS (fun _ _ _ h => h) rfl, hI.2.1.put r7cRa 17 38 rfl (by rw [hI.1.1.1, hsz]; decide) _ (by rw [hI.1.2.2.1.1]; exact dst_lt (show dstOf r7cOps 17 = some 38 from rfl)), (fun e => hI.2.2 (listed_set e))⟩
  · have e17 : c.tmps.getD 38 undef = .int .i64 b2 := hI.1.fact 17 38 rfl (listed hall 17 (by kernel_rfl))
    have f17 := e17
    simp only [Array.getD_eq_getD_getElem?] at e17
    go_simp
    exact hK' _ _ ⟨hI.1.stepL r7cRa 18 39 rfl (by rw [hsz]; decide) _ _ rfl hall hS (fun _ _ _ h => h) rfl, hI.2.1.put r7cRa 18 39 rfl (by rw [hI.1.1.1, hsz]; decide) _ (by rw [hI.1.2.2.1.1]; exact dst_lt (show dstOf r7cOps 18 = some 39 from rfl)), (fun e => hI.2.2 (listed_set e))⟩
  · have e12 : c.tmps.getD 33 undef = .int .i64 W33 := hI.1.fact 12 33 rfl (listed hall 12 (by kernel_rfl))
    have f12 := e12
    simp only [Array.getD_eq_getD_getElem?] at e12
    have e18 : c.tmps.getD 39 undef = .int .i64 (b2 * 256) := hI.1.fact 18 39 rfl (listed hall 18 (by kernel_rfl))
    have f18 := e18
    simp only [Array.getD_eq_getD_getElem?] at e18
    go_simp
    exact hK' _ _ ⟨hI.1.stepL r7cRa 19 40 rfl (by rw [hsz]; decide) _ _ rfl hall hS (fun _ _ _ h => h) rfl, hI.2.1.put r7cRa 19 40 rfl (by rw [hI.1.1.1, hsz]; decide) _ (by rw [hI.1.2.2.1.1]; exact dst_lt (show dstOf r7cOps 19 = some 40 from rfl)), (fun e => hI.2.2 (listed_set e))⟩
  · go_simp
    exact hK' _ _ ⟨hI.1.stepL r7cRa 20 41 rfl (by rw [hsz]; decide) _ _ rfl hall hS (fun _ _ _ h => h) rfl, hI.2.1.put r7cRa 20 41 rfl (by rw [hI.1.1.1, hsz]; decide) _ (by rw [hI.1.2.2.1.1]; exact dst_lt (show dstOf r7cOps 20 = some 41 from rfl)), (fun e => hI.2.2 (listed_set e))⟩
  · go_simp
    exact hK' _ _ ⟨hI.1.stepL r7cRa 21 42 rfl (by rw [hsz]; decide) _ _ rfl hall hS (fun _ _ _ h => h) rfl, hI.2.1.put r7cRa 21 42 rfl (by rw [hI.1.1.1, hsz]; decide) _ (by rw [hI.1.2.2.1.1]; exact dst_lt (show dstOf r7cOps 21 = some 42 from rfl)), (fun e => hI.2.2 (listed_set e))⟩
  · have e21 : c.tmps.getD 42 undef = .int .i64 i := hI.1.fact 21 42 rfl (listed hall 21 (by kernel_rfl))
    have f21 := e21
    simp only [Array.getD_eq_getD_getElem?] at e21
    go_simp
    exact hK' _ _ ⟨hI.1.stepL r7cRa 22 43 rfl (by rw [hsz]; decide) _ _ rfl hall hS (fun _ _ _ h => h) rfl, hI.2.1.put r7cRa 22 43 rfl (by rw [hI.1.1.1, hsz]; decide) _ (by rw [hI.1.2.2.1.1]; exact dst_lt (show dstOf r7cOps 22 = some 43 from rfl)), (fun e => hI.2.2 (listed_set e))⟩
  · have e20 : c.tmps.getD 41 undef = .string s := hI.1.fact 20 41 rfl (listed hall 20 (by kernel_rfl))
    have f20 := e20
    simp only [Array.getD_eq_getD_getElem?] at e20
    have e22 : c.tmps.getD 43 undef = .int .i64 ((i + 3 : Nat) : Int) := hI.1.fact 22 43 rfl (listed hall 22 (by kernel_rfl))
    have f22 := e22
    simp only [Array.getD_eq_getD_getElem?] at e22
    go_simp
    exact hK' _ _ ⟨hI.1.stepL r7cRa 23 44 rfl (by rw [hsz]; decide) _ _ rfl hall hS (fun _ _ _ h => h) rfl, hI.2.1.put r7cRa 23 44 rfl (by rw [hI.1.1.1, hsz]; decide) _ (by rw [hI.1.2.2.1.1]; exact dst_lt (show dstOf r7cOps 23 = some 44 from rfl)), (fun e => hI.2.2 (listed_set e))⟩
  · have e23 : c.tmps.getD 44 undef = .int .u8 b3 := hI.1.fact 23 44 rfl (listed hall 23 (by kernel_rfl))
    have f23 := e23
    simp only [Array.getD_eq_getD_getElem?] at e23
    go_simp
    exact hK' _ _ ⟨hI.1.stepL r7cRa 24 45 rfl (by rw [hsz]; decide) _ _ rfl hall hS (fun _ _ _ h => h) rfl, hI.2.1.put r7cRa 24 45 rfl (by rw [hI.1.1.1, hsz]; decide) _ (by rw [hI.1.2.2.1.1]; exact dst_lt (show dstOf r7cOps 24 = some 45 from rfl)), (fun e => hI.2.2 (listed_set e))⟩
  · have e19 : c.tmps.getD 40 undef = .int .i64 W40 := hI.1.fact 19 40 rfl (listed hall 19 (by kernel_rfl))
    have f19 := e19
    simp only [Array.getD_eq_getD_getElem?] at e19
    have e24 : c.tmps.getD 45 undef = .int .i64 b3 := hI.1.fact 24 45 rfl (listed hall 24 (by kernel_rfl))
    have f24 := e24
    simp only [Array.getD_eq_getD_getElem?] at e24
    go_simp
    exact hK' _ _ ⟨hI.1.stepL r7cRa 25 46 rfl (by rw [hsz]; decide) _ _ rfl hall hS (fun _ _ _ h => h) rfl, hI.2.1.put r7cRa 25 46 rfl (by rw [hI.1.1.1, hsz]; decide) _ (by rw [hI.1.2.2.1.1]; exact dst_lt (show dstOf r7cOps 25 = some 46 from rfl)), (fun e => hI.2.2 (listed_set e))⟩
  · have e25 : c.tmps.getD 46 undef = .int .i64 W46 := hI.1.fact 25 46 rfl (listed hall 25 (by kernel_rfl))
    have f25 := e25
    simp only [Array.getD_eq_getD_getElem?] at e25
    have uA0 := hI.1.2.2.1.2.unlisted hl (j := 27) (by kernel_rfl)
    go_simp
    have hb2 : Below wx.heap.size wx (wx.alloc (.cells ([.int .i64 W46] : List Value).toArray 3)) := (Below.refl _ _).alloc (Nat.le_refl _) _
    have hS2 := hS.alloc hBs (.cells ([.int .i64 W46] : List Value).toArray 3)
    exact hK' _ _ ⟨hI.1.stepL r7cRa 26 47 rfl (by rw [hsz]; decide) _ _ rfl hall hS2 (fun j _ u h => R7cF.new h hb2) ⟨_, rfl, Holds.new _ _ _, fun e => Nat.lt_irrefl _ ((hI.2.2 uA0).lt _ e).2⟩, hI.2.1.put r7cRa 26 47 rfl (by rw [hI.1.1.1, hsz]; decide) _ (by rw [hI.1.2.2.1.1]; exact dst_lt (show dstOf r7cOps 26 = some 47 from rfl)), (fun e => row_new (hI.2.2 (listed_set e)) hb2)⟩
  · have e0 : c.tmps.getD 21 undef = v := hI.1.fact 0 21 rfl (listed hall 0 (by kernel_rfl))
    have f0 := e0
    simp only [Array.getD_eq_getD_getElem?] at e0
    obtain ⟨N, e9, hN, hNo⟩ : ∃ N, c.tmps.getD 47 undef = .slice (some ⟨N, 0, none⟩) 1 1 ∧ Holds wx N ([.int .i64 W46] : List Value).toArray 3 ∧ (v : Value).ownBlock ≠ some N := hI.1.fact 26 47 rfl (listed hall 26 (by kernel_rfl))
    have g2 := hI.2.2 hl
    have uS := hI.1.2.2.1.2.unlisted hl (j := 28) (by kernel_rfl)
    obtain ⟨i0, hi, hz0, hz1, hz2⟩ := info_parts infoInt
    refine step_append_lies _ (by rfl) _ _ _ (by rfl) base 3 i0 _ 1 8 Tryz.underlying22 hi hz0 hz1 hz2 rfl (by omega) (v) n (xs) (by exact f0) g2 ⟨N, 0, none⟩ 1 1 ([.int .i64 W46]) (by exact e9) (by rfl) (World.news_of_block (cs := ([.int .i64 W46] : List Value).toArray) (t := 3) (fr := (0, 0)) hN) (by simp [Value.oneCell']) (by omega) (by unfold maxLen; omega) (by omega) (Nat.le_trans hbase0 hWs) wx.heap.size rfl ?_
    intro gg cap2 w8 hown8 hgrow hat hlt8
    have hS2 := hS.grown hgrow hBs (fun q hq => Nat.le_trans hrb0 (g2.lt q hq).1)
    exact hK' _ _ ⟨hI.1.stepL r7cRa 27 48 rfl (by rw [hsz]; decide) _ _ rfl hall hS2 (fun j hj u h => R7cF.grow0 h g2 hgrow (yes_no hj hl) (yes_no hj uS)) ⟨gg, cap2, rfl, hown8⟩, hI.2.1.put r7cRa 27 48 rfl (by rw [hI.1.1.1, hsz]; decide) _ (by rw [hI.1.2.2.1.1]; exact dst_lt (show dstOf r7cOps 27 = some 48 from rfl)), (fun h => absurd rfl (listed_at h (by rw [hI.1.2.2.1.1, r7cRn]; decide)))⟩
  · obtain ⟨g', c', e10, hr⟩ : ∃ g' c', c.tmps.getD 48 undef = (.slice (some ⟨g', 0, none⟩) (n + 1) c') ∧ wx.ownsRow base 3 1 (.slice (some ⟨g', 0, none⟩) (n + 1) c') (n + 1) (xs ++ ([.int .i64 W46] : List Value)) := hI.1.fact 27 48 rfl (listed hall 27 (by kernel_rfl))
    simp only [Array.getD_eq_getD_getElem?] at e10
    go_simp
    exact hK' _ _ ⟨hI.1.stepL r7cRa 28 4 rfl (by rw [hsz]; decide) _ _ rfl hall hS (fun _ _ _ h => h) ⟨g', c', rfl, hr⟩, hI.2.1.put r7cRa 28 4 rfl (by rw [hI.1.1.1, hsz]; decide) _ (by rw [hI.1.2.2.1.1]; exact dst_lt (show dstOf r7cOps 28 = some 4 from rfl)), (fun e => hI.2.2 (listed_set e))⟩
end Go.Proofs.YthkoaakicdhnpaaGreat

namespace Go.Proofs.YthkoaakicdhnpaaGreat
open Go.RowKit

noncomputable def rceOps : Array Oper := (regOps (Tryz.f21.body.getD .skip) 6).getD #[]
theorem rceR : inRow2 .any rceOps = true := by kernel_rfl
theorem rceRa : apartB rceOps = true := by kernel_rfl
theorem rceRn : rceOps.size = 14 := by kernel_rfl
def RceF (Z g o n cap k : Nat) (par : Int) (nm : ByteArray) (pa : Option Addr) (pl pc : Nat) (r1 r2 : Int) (j : Nat) : Value → World → Prop := match j with
  | 0 => fun u _ => u = .pointer (some ⟨Z, 0, none⟩)
  | 1 => fun u _ => u = .slice (some ⟨g, o, none⟩) n cap
  | 2 => fun u _ => u = .int .i64 k
  | 3 => fun u _ => u = .pointer (some ⟨g, o + k * 3, none⟩)
  | 4 => fun u _ => u = .agg #[.int .i64 par, .string nm, .slice pa pl pc]
  | 5 => fun u _ => u = .int .i64 r1
  | 6 => fun u _ => u = .pointer (some ⟨Z, 0, none⟩)
  | 7 => fun u _ => u = .slice (some ⟨g, o, none⟩) n cap
  | 8 => fun u _ => u = .int .i64 k
  | 9 => fun u _ => u = .pointer (some ⟨g, o + k * 3, none⟩)
  | 10 => fun u _ => u = .agg #[.int .i64 par, .string nm, .slice pa pl pc]
  | 11 => fun u _ => u = .int .i64 r2
  | 12 => fun u _ => u = .int .i64 r1
  | 13 => fun u _ => u = .int .i64 r2
  | _ => fun _ _ => True
def RceX (_ _ _ _ _ _ : Nat) (_ : Int) (_ : ByteArray) (_ : Option Addr) (_ _ : Nat) (_ _ : Int) (_ : Array Bool) (_ : World) : Prop := True
section
variable {Z g o n cap k : Nat} {par : Int} {nm : ByteArray} {pa : Option Addr} {pl pc : Nat} {r1 r2 : Int} {w w' : World} {j : Nat} {u : Value}
theorem RceF.new (h : RceF Z g o n cap k par nm pa pl pc r1 r2 j u w) (kb : Below w.heap.size w w') : RceF Z g o n cap k par nm pa pl pc r1 r2 j u w' := by
  unfold RceF at *
  have kk := Keeps.of_fresh kb (fun _ => False)
  split at h
  all_goals first
    | exact h
    | (obtain ⟨N, e, hN, r⟩ := h; exact ⟨N, e, hN.keeps kk (fun e => e), r⟩)
    | (obtain ⟨g', c', e, hr⟩ := h; exact ⟨g', c', e, row_new hr kb⟩)
end

set_option maxHeartbeats 4000000 in
set_option maxRecDepth 100000 in
theorem rce_region {Q : Exit → Act → World → Prop} (Z g o n cap k : Nat) (par : Int) (nm : ByteArray) (pa : Option Addr) (pl pc : Nat) (r1 r2 : Int) (B0 : Nat) (W w : World) (A : Act) (hsz : A.tmps.size = 44) (hB0 : B0 ≤ W.heap.size)  (hkn : k < n) (hZB : Z < B0) (hgB : g < B0) (cZ : W.cell? ⟨Z, 0, none⟩ = some (.slice (some ⟨g, o, none⟩) n cap)) (c0 : W.cell? ⟨g, o + k * 3, none⟩ = some (.int .i64 par)) (c1 : W.cell? ⟨g, o + k * 3 + 1, none⟩ = some (.string nm)) (c2 : W.cell? ⟨g, o + k * 3 + 2, none⟩ = some (.slice pa pl pc)) (H1 : Hid (∀ wx, Below B0 W wx → Calls Tryz.prog 53 #[.agg #[.int .i64 par, .string nm, .slice pa pl pc], .string ⟨#[35, 97, 100, 100, 114, 101, 115, 115, 45, 99, 101, 108, 108, 115]⟩] wx fun e w' => e = .returned (.int .i64 r1) ∧ Below wx.heap.size wx w')) (H2 : Hid (∀ wx, Below B0 W wx → Calls Tryz.prog 53 #[.agg #[.int .i64 par, .string nm, .slice pa pl pc], .string ⟨#[35, 115, 105, 122, 101, 45, 99, 101, 108, 108, 115]⟩] wx fun e w' => e = .returned (.int .i64 r2) ∧ Below wx.heap.size wx w'))
    (a2 : A.tmps.getD 2 undef = .pointer (some ⟨Z, 0, none⟩)) (a1 : A.tmps.getD 1 undef = .int .i64 k)
    (hS : Below B0 W w) 
    (hQ : ∀ c w', SameBut rceOps A c → Below B0 W w' → c.tmps.getD 8 undef = .int .i64 r1 → c.tmps.getD 9 undef = .int .i64 r2 → Q .normal c w') :
    wpAny Tryz.prog .any rceOps Q rceOps.size (Array.replicate rceOps.size false) A w := by
  refine wpAny_inv2 (fun l c wx => RInv rceOps A (RceF Z g o n cap k par nm pa pl pc r1 r2) (fun wx => Below B0 W wx) l c wx ∧ Fresh rceOps A l c ∧ RceX Z g o n cap k par nm pa pl pc r1 r2 l wx) rceR ?hend ?hstep _ _ _ _ (by simp) (by simp) ⟨RInv.start hS, fun _ _ _ _ => rfl, trivial⟩
  case hend =>
    intro l c wx hI hl
    have hh : ∀ k, k < 14 → l.getD k false = true := fun k hk => hl k (by rw [rceRn]; exact hk)
    exact hQ c wx  hI.1.1 hI.1.2.1  (hI.1.fact 12 8 rfl (hh 12 (by decide))) (hI.1.fact 13 9 rfl (hh 13 (by decide)))
  intro l c wx hI i' op ho hl hall K' hK'
  have hi13 : i' < 14 := by rw [← rceRn]; exact (Array.getElem?_eq_some_iff.1 ho).1
  simp only [rceOps, regOps, Tryz.f21, Option.getD_some, reduceIte, Nat.reduceEqDiff] at ho
  have hS := hI.1.2.1
  have hBs : B0 ≤ wx.heap.size := Nat.le_trans hB0 hS.size
  have hWs : W.heap.size ≤ wx.heap.size := hS.size
  have s2 := (hI.1.slot 2 (by kernel_rfl)).trans a2
  have s1 := (hI.1.slot 1 (by kernel_rfl)).trans a1
  simp only [Array.getD_eq_getD_getElem?] at s2 s1
  have hic : i' = 0 ∨ i' = 1 ∨ i' = 2 ∨ i' = 3 ∨ i' = 4 ∨ i' = 5 ∨ i' = 6 ∨ i' = 7 ∨ i' = 8 ∨ i' = 9 ∨ i' = 10 ∨ i' = 11 ∨ i' = 12 ∨ i' = 13 := by omega
  rcases hic with rfl | rfl | rfl | rfl | rfl | rfl | rfl | rfl | rfl | rfl | rfl | rfl | rfl | rfl
  all_goals cases ho
  · go_simp
    exact hK' _ _ ⟨hI.1.stepL rceRa 0 24 rfl (by rw [hsz]; decide) _ _ rfl hall hS (fun _ _ _ h => h) rfl, hI.2.1.put rceRa 0 24 rfl (by rw [hI.1.1.1, hsz]; decide) _ (by rw [hI.1.2.2.1.1]; exact dst_lt (show dstOf rceOps 0 = some 24 from rfl)), trivial⟩
  · have e0 : c.tmps.getD 24 undef = .pointer (some ⟨Z, 0, none⟩) := hI.1.fact 0 24 rfl (listed hall 0 (by kernel_rfl))
    have f0 := e0
    simp only [Array.getD_eq_getD_getElem?] at e0
    have hX := (hS.cell (p := ⟨Z, 0, none⟩) hZB).trans cZ
    go_simp
    exact hK' _ _ ⟨hI.1.stepL rceRa 1 25 rfl (by rw [hsz]; decide) _ _ rfl hall hS (fun _ _ _ h => h) rfl, hI.2.1.put rceRa 1 25 rfl (by rw [hI.1.1.1, hsz]; decide) _ (by rw [hI.1.2.2.1.1]; exact dst_lt (show dstOf rceOps 1 = some 25 from rfl)), trivial⟩
  · go_simp
    exact hK' _ _ ⟨hI.1.stepL rceRa 2 26 rfl (by rw [hsz]; decide) _ _ rfl hall hS (fun _ _ _ h => h) rfl, hI.2.1.put rceRa 2 26 rfl (by rw [hI.1.1.1, hsz]; decide) _ (by rw [hI.1.2.2.1.1]; exact dst_lt (show dstOf rceOps 2 = some 26 from rfl)), trivial⟩
  · have e1 : c.tmps.getD 25 undef = .slice (some ⟨g, o, none⟩) n cap := hI.1.fact 1 25 rfl (listed hall 1 (by kernel_rfl))
    have f1 := e1
    simp only [Array.getD_eq_getD_getElem?] at e1
    have e2 : c.tmps.getD 26 undef = .int .i64 k := hI.1.fact 2 26 rfl (listed hall 2 (by kernel_rfl))
    have f2 := e2
    simp only [Array.getD_eq_getD_getElem?] at e2
    go_simp
    exact hK' _ _ ⟨hI.1.stepL rceRa 3 27 rfl (by rw [hsz]; decide) _ _ rfl hall hS (fun _ _ _ h => h) rfl, hI.2.1.put rceRa 3 27 rfl (by rw [hI.1.1.1, hsz]; decide) _ (by rw [hI.1.2.2.1.1]; exact dst_lt (show dstOf rceOps 3 = some 27 from rfl)), trivial⟩
  · have e3 : c.tmps.getD 27 undef = .pointer (some ⟨g, o + k * 3, none⟩) := hI.1.fact 3 27 rfl (listed hall 3 (by kernel_rfl))
    have f3 := e3
    simp only [Array.getD_eq_getD_getElem?] at e3
    have d0 := (hS.cell (p := ⟨g, o + k * 3, none⟩) hgB).trans c0
    have d1 := (hS.cell (p := ⟨g, o + k * 3 + 1, none⟩) hgB).trans c1
    have d2 := (hS.cell (p := ⟨g, o + k * 3 + 2, none⟩) hgB).trans c2
    go_simp
    exact hK' _ _ ⟨hI.1.stepL rceRa 4 28 rfl (by rw [hsz]; decide) _ _ rfl hall hS (fun _ _ _ h => h) rfl, hI.2.1.put rceRa 4 28 rfl (by rw [hI.1.1.1, hsz]; decide) _ (by rw [hI.1.2.2.1.1]; exact dst_lt (show dstOf rceOps 4 = some 28 from rfl)), trivial⟩
  · have e4 : c.tmps.getD 28 undef = .agg #[.int .i64 par, .string nm, .slice pa pl pc] := hI.1.fact 4 28 rfl (listed hall 4 (by kernel_rfl))
    have f4 := e4
    simp only [Array.getD_eq_getD_getElem?] at e4
    go_simp
    refine (H1.out wx hS).mono ?_
    rintro e w2 ⟨rfl, hb2⟩
    go_simp
    have hS2 := hS.trans (hb2.mono hBs)
    exact hK' _ _ ⟨hI.1.stepL rceRa 5 29 rfl (by rw [hsz]; decide) _ _ rfl hall hS2 (fun j _ u h => RceF.new h hb2) rfl, hI.2.1.put rceRa 5 29 rfl (by rw [hI.1.1.1, hsz]; decide) _ (by rw [hI.1.2.2.1.1]; exact dst_lt (show dstOf rceOps 5 = some 29 from rfl)), trivial⟩
  · go_simp
    exact hK' _ _ ⟨hI.1.stepL rceRa 6 30 rfl (by rw [hsz]; decide) _ _ rfl hall hS (fun _ _ _ h => h) rfl, hI.2.1.put rceRa 6 30 rfl (by rw [hI.1.1.1, hsz]; decide) _ (by rw [hI.1.2.2.1.1]; exact dst_lt (show dstOf rceOps 6 = some 30 from rfl)), trivial⟩
  · have e6 : c.tmps.getD 30 undef = .pointer (some ⟨Z, 0, none⟩) := hI.1.fact 6 30 rfl (listed hall 6 (by kernel_rfl))
    have f6 := e6
    simp only [Array.getD_eq_getD_getElem?] at e6
    have hX := (hS.cell (p := ⟨Z, 0, none⟩) hZB).trans cZ
    go_simp
    exact hK' _ _ ⟨hI.1.stepL rceRa 7 31 rfl (by rw [hsz]; decide) _ _ rfl hall hS (fun _ _ _ h => h) rfl, hI.2.1.put rceRa 7 31 rfl (by rw [hI.1.1.1, hsz]; decide) _ (by rw [hI.1.2.2.1.1]; exact dst_lt (show dstOf rceOps 7 = some 31 from rfl)), trivial⟩
  · go_simp
    exact hK' _ _ ⟨hI.1.stepL rceRa 8 32 rfl (by rw [hsz]; decide) _ _ rfl hall hS (fun _ _ _ h => h) rfl, hI.2.1.put rceRa 8 32 rfl (by rw [hI.1.1.1, hsz]; decide) _ (by rw [hI.1.2.2.1.1]; exact dst_lt (show dstOf rceOps 8 = some 32 from rfl)), trivial⟩
  · have e7 : c.tmps.getD 31 undef = .slice (some ⟨g, o, none⟩) n cap := hI.1.fact 7 31 rfl (listed hall 7 (by kernel_rfl))
    have f7 := e7
    simp only [Array.getD_eq_getD_getElem?] at e7
    have e8 : c.tmps.getD 32 undef = .int .i64 k := hI.1.fact 8 32 rfl (listed hall 8 (by kernel_rfl))
    have f8 := e8
    simp only [Array.getD_eq_getD_getElem?] at e8
    go_simp
    exact hK' _ _ ⟨hI.1.stepL rceRa 9 33 rfl (by rw [hsz]; decide) _ _ rfl hall hS (fun _ _ _ h => h) rfl, hI.2.1.put rceRa 9 33 rfl (by rw [hI.1.1.1, hsz]; decide) _ (by rw [hI.1.2.2.1.1]; exact dst_lt (show dstOf rceOps 9 = some 33 from rfl)), trivial⟩
  · have e9 : c.tmps.getD 33 undef = .pointer (some ⟨g, o + k * 3, none⟩) := hI.1.fact 9 33 rfl (listed hall 9 (by kernel_rfl))
    have f9 := e9
    simp only [Array.getD_eq_getD_getElem?] at e9
    have d0 := (hS.cell (p := ⟨g, o + k * 3, none⟩) hgB).trans c0
    have d1 := (hS.cell (p := ⟨g, o + k * 3 + 1, none⟩) hgB).trans c1
    have d2 := (hS.cell (p := ⟨g, o + k * 3 + 2, none⟩) hgB).trans c2
    go_simp
    exact hK' _ _ ⟨hI.1.stepL rceRa 10 34 rfl (by rw [hsz]; decide) _ _ rfl hall hS (fun _ _ _ h => h) rfl, hI.2.1.put rceRa 10 34 rfl (by rw [hI.1.1.1, hsz]; decide) _ (by rw [hI.1.2.2.1.1]; exact dst_lt (show dstOf rceOps 10 = some 34 from rfl)), trivial⟩
  · have e10 : c.tmps.getD 34 undef = .agg #[.int .i64 par, .string nm, .slice pa pl pc] := hI.1.fact 10 34 rfl (listed hall 10 (by kernel_rfl))
    have f10 := e10
    simp only [Array.getD_eq_getD_getElem?] at e10
    go_simp
    refine (H2.out wx hS).mono ?_
    rintro e w2 ⟨rfl, hb2⟩
    go_simp
    have hS2 := hS.trans (hb2.mono hBs)
    exact hK' _ _ ⟨hI.1.stepL rceRa 11 35 rfl (by rw [hsz]; decide) _ _ rfl hall hS2 (fun j _ u h => RceF.new h hb2) rfl, hI.2.1.put rceRa 11 35 rfl (by rw [hI.1.1.1, hsz]; decide) _ (by rw [hI.1.2.2.1.1]; exact dst_lt (show dstOf rceOps 11 = some 35 from rfl)), trivial⟩
  · have e5 : c.tmps.getD 29 undef = .int .i64 r1 := hI.1.fact 5 29 rfl (listed hall 5 (by kernel_rfl))
    have f5 := e5
    simp only [Array.getD_eq_getD_getElem?] at e5
    go_simp
    exact hK' _ _ ⟨hI.1.stepL rceRa 12 8 rfl (by rw [hsz]; decide) _ _ rfl hall hS (fun _ _ _ h => h) rfl, hI.2.1.put rceRa 12 8 rfl (by rw [hI.1.1.1, hsz]; decide) _ (by rw [hI.1.2.2.1.1]; exact dst_lt (show dstOf rceOps 12 = some 8 from rfl)), trivial⟩
  · have e11 : c.tmps.getD 35 undef = .int .i64 r2 := hI.1.fact 11 35 rfl (listed hall 11 (by kernel_rfl))
    have f11 := e11
    simp only [Array.getD_eq_getD_getElem?] at e11
    go_simp
    exact hK' _ _ ⟨hI.1.stepL rceRa 13 9 rfl (by rw [hsz]; decide) _ _ rfl hall hS (fun _ _ _ h => h) rfl, hI.2.1.put rceRa 13 9 rfl (by rw [hI.1.1.1, hsz]; decide) _ (by rw [hI.1.2.2.1.1]; exact dst_lt (show dstOf rceOps 13 = some 9 from rfl)), trivial⟩
end Go.Proofs.YthkoaakicdhnpaaGreat

namespace Go.Proofs.YthkoaakicdhnpaaGreat
open Go.RowKit

noncomputable def rrcOps : Array Oper := (regOps (Tryz.f47.body.getD .skip) 5).getD #[]
theorem rrcR : inRow2 .any rrcOps = true := by kernel_rfl
theorem rrcRa : apartB rrcOps = true := by kernel_rfl
theorem rrcRn : rrcOps.size = 15 := by kernel_rfl
def RrcF (Z g o n cap k : Nat) (par : Int) (a b e : Int) (j : Nat) : Value → World → Prop := match j with
  | 0 => fun u _ => u = .agg #[.slice (some ⟨g, o, none⟩) n cap]
  | 1 => fun u _ => u = .pointer (some ⟨Z, 0, none⟩)
  | 2 => fun u _ => u = .slice (some ⟨g, o, none⟩) n cap
  | 3 => fun u _ => u = .int .i64 k
  | 4 => fun u _ => u = .pointer (some ⟨g, o + k * 3, none⟩)
  | 5 => fun u _ => u = .pointer (some ⟨g, o + k * 3, none⟩)
  | 6 => fun u _ => u = .int .i64 par
  | 7 => fun u _ => u = .tuple #[.int .i64 a, .int .i64 b, .int .i64 e]
  | 8 => fun u _ => u = .tuple #[.int .i64 a, .int .i64 b, .int .i64 e]
  | 9 => fun u _ => u = .int .i64 a
  | 10 => fun u _ => u = .int .i64 b
  | 11 => fun u _ => u = .int .i64 e
  | 12 => fun u _ => u = .int .i64 a
  | 13 => fun u _ => u = .int .i64 b
  | 14 => fun u _ => u = .int .i64 e
  | _ => fun _ _ => True
def RrcX (_ _ _ _ _ _ : Nat) (_ : Int) (_ _ _ : Int) (_ : Array Bool) (_ : World) : Prop := True
section
variable {Z g o n cap k : Nat} {par : Int} {a b e : Int} {w w' : World} {j : Nat} {u : Value}
theorem RrcF.new (h : RrcF Z g o n cap k par a b e j u w) (kb : Below w.heap.size w w') : RrcF Z g o n cap k par a b e j u w' := by
  unfold RrcF at *
  have kk := Keeps.of_fresh kb (fun _ => False)
  split at h
  all_goals first
    | exact h
    | (obtain ⟨N, e, hN, r⟩ := h; exact ⟨N, e, hN.keeps kk (fun e => e), r⟩)
    | (obtain ⟨g', c', e, hr⟩ := h; exact ⟨g', c', e, row_new hr kb⟩)
end

set_option maxHeartbeats 4000000 in
set_option maxRecDepth 100000 in
theorem rrc_region {Q : Exit → Act → World → Prop} (Z g o n cap k : Nat) (par : Int) (a b e : Int) (B0 : Nat) (W w : World) (A : Act) (hsz : A.tmps.size = 114) (hB0 : B0 ≤ W.heap.size)  (hkn : k < n) (hZB : Z < B0) (hgB : g < B0) (cZ : W.cell? ⟨Z, 0, none⟩ = some (.slice (some ⟨g, o, none⟩) n cap)) (c0 : W.cell? ⟨g, o + k * 3, none⟩ = some (.int .i64 par)) (H1 : Hid (∀ wx, Below B0 W wx → Calls Tryz.prog 21 #[.agg #[.slice (some ⟨g, o, none⟩) n cap], .int .i64 par] wx fun x w' => x = .returned (.tuple #[.int .i64 a, .int .i64 b, .int .i64 e]) ∧ Below wx.heap.size wx w'))
    (a2 : A.tmps.getD 2 undef = .pointer (some ⟨Z, 0, none⟩)) (a1 : A.tmps.getD 1 undef = .int .i64 k)
    (hS : Below B0 W w) 
    (hQ : ∀ c w', SameBut rrcOps A c → Below B0 W w' → c.tmps.getD 11 undef = .int .i64 a → c.tmps.getD 12 undef = .int .i64 b → c.tmps.getD 13 undef = .int .i64 e → Q .normal c w') :
    wpAny Tryz.prog .any rrcOps Q rrcOps.size (Array.replicate rrcOps.size false) A w := by
  refine wpAny_inv2 (fun l c wx => RInv rrcOps A (RrcF Z g o n cap k par a b e) (fun wx => Below B0 W wx) l c wx ∧ Fresh rrcOps A l c ∧ RrcX Z g o n cap k par a b e l wx) rrcR ?hend ?hstep _ _ _ _ (by simp) (by simp) ⟨RInv.start hS, fun _ _ _ _ => rfl, trivial⟩
  case hend =>
    intro l c wx hI hl
    have hh : ∀ k, k < 15 → l.getD k false = true := fun k hk => hl k (by rw [rrcRn]; exact hk)
    exact hQ c wx  hI.1.1 hI.1.2.1  (hI.1.fact 12 11 rfl (hh 12 (by decide))) (hI.1.fact 13 12 rfl (hh 13 (by decide))) (hI.1.fact 14 13 rfl (hh 14 (by decide)))
  intro l c wx hI i' op ho hl hall K' hK'
  have hi13 : i' < 15 := by rw [← rrcRn]; exact (Array.getElem?_eq_some_iff.1 ho).1
  simp only [rrcOps, regOps, Tryz.f47, Option.getD_some, reduceIte, Nat.reduceEqDiff] at ho
  have hS := hI.1.2.1
  have hBs : B0 ≤ wx.heap.size := Nat.le_trans hB0 hS.size
  have hWs : W.heap.size ≤ wx.heap.size := hS.size
  have s2 := (hI.1.slot 2 (by kernel_rfl)).trans a2
  have s1 := (hI.1.slot 1 (by kernel_rfl)).trans a1
  simp only [Array.getD_eq_getD_getElem?] at s2 s1
  have hic : i' = 0 ∨ i' = 1 ∨ i' = 2 ∨ i' = 3 ∨ i' = 4 ∨ i' = 5 ∨ i' = 6 ∨ i' = 7 ∨ i' = 8 ∨ i' = 9 ∨ i' = 10 ∨ i' = 11 ∨ i' = 12 ∨ i' = 13 ∨ i' = 14 := by omega
  rcases hic with rfl | rfl | rfl | rfl | rfl | rfl | rfl | rfl | rfl | rfl | rfl | rfl | rfl | rfl | rfl
  all_goals cases ho
  · have hX := (hS.cell (p := ⟨Z, 0, none⟩) hZB).trans cZ
    go_simp
    exact hK' _ _ ⟨hI.1.stepL rrcRa 0 41 rfl (by rw [hsz]; decide) _ _ rfl hall hS (fun _ _ _ h => h) rfl, hI.2.1.put rrcRa 0 41 rfl (by rw [hI.1.1.1, hsz]; decide) _ (by rw [hI.1.2.2.1.1]; exact dst_lt (show dstOf rrcOps 0 = some 41 from rfl)), trivial⟩
  · go_simp
    exact hK' _ _ ⟨hI.1.stepL rrcRa 1 42 rfl (by rw [hsz]; decide) _ _ rfl hall hS (fun _ _ _ h => h) rfl, hI.2.1.put rrcRa 1 42 rfl (by rw [hI.1.1.1, hsz]; decide) _ (by rw [hI.1.2.2.1.1]; exact dst_lt (show dstOf rrcOps 1 = some 42 from rfl)), trivial⟩
  · have e1 : c.tmps.getD 42 undef = .pointer (some ⟨Z, 0, none⟩) := hI.1.fact 1 42 rfl (listed hall 1 (by kernel_rfl))
    have f1 := e1
    simp only [Array.getD_eq_getD_getElem?] at e1
    have hX := (hS.cell (p := ⟨Z, 0, none⟩) hZB).trans cZ
    go_simp
    exact hK' _ _ ⟨hI.1.stepL rrcRa 2 43 rfl (by rw [hsz]; decide) _ _ rfl hall hS (fun _ _ _ h => h) rfl, hI.2.1.put rrcRa 2 43 rfl (by rw [hI.1.1.1, hsz]; decide) _ (by rw [hI.1.2.2.1.1]; exact dst_lt (show dstOf rrcOps 2 = some 43 from rfl)), trivial⟩
  · go_simp
    exact hK' _ _ ⟨hI.1.stepL rrcRa 3 44 rfl (by rw [hsz]; decide) _ _ rfl hall hS (fun _ _ _ h => h) rfl, hI.2.1.put rrcRa 3 44 rfl (by rw [hI.1.1.1, hsz]; decide) _ (by rw [hI.1.2.2.1.1]; exact dst_lt (show dstOf rrcOps 3 = some 44 from rfl)), trivial⟩
  · have e2 : c.tmps.getD 43 undef = .slice (some ⟨g, o, none⟩) n cap := hI.1.fact 2 43 rfl (listed hall 2 (by kernel_rfl))
    have f2 := e2
    simp only [Array.getD_eq_getD_getElem?] at e2
    have e3 : c.tmps.getD 44 undef = .int .i64 k := hI.1.fact 3 44 rfl (listed hall 3 (by kernel_rfl))
    have f3 := e3
    simp only [Array.getD_eq_getD_getElem?] at e3
    go_simp
    exact hK' _ _ ⟨hI.1.stepL rrcRa 4 45 rfl (by rw [hsz]; decide) _ _ rfl hall hS (fun _ _ _ h => h) rfl, hI.2.1.put rrcRa 4 45 rfl (by rw [hI.1.1.1, hsz]; decide) _ (by rw [hI.1.2.2.1.1]; exact dst_lt (show dstOf rrcOps 4 = some 45 from rfl)), trivial⟩
  · have e4 : c.tmps.getD 45 undef = .pointer (some ⟨g, o + k * 3, none⟩) := hI.1.fact 4 45 rfl (listed hall 4 (by kernel_rfl))
    have f4 := e4
    simp only [Array.getD_eq_getD_getElem?] at e4
    go_simp
    exact hK' _ _ ⟨hI.1.stepL rrcRa 5 46 rfl (by rw [hsz]; decide) _ _ rfl hall hS (fun _ _ _ h => h) rfl, hI.2.1.put rrcRa 5 46 rfl (by rw [hI.1.1.1, hsz]; decide) _ (by rw [hI.1.2.2.1.1]; exact dst_lt (show dstOf rrcOps 5 = some 46 from rfl)), trivial⟩
  · have e5 : c.tmps.getD 46 undef = .pointer (some ⟨g, o + k * 3, none⟩) := hI.1.fact 5 46 rfl (listed hall 5 (by kernel_rfl))
    have f5 := e5
    simp only [Array.getD_eq_getD_getElem?] at e5
    have d0 := (hS.cell (p := ⟨g, o + k * 3, none⟩) hgB).trans c0
    go_simp
    exact hK' _ _ ⟨hI.1.stepL rrcRa 6 47 rfl (by rw [hsz]; decide) _ _ rfl hall hS (fun _ _ _ h => h) rfl, hI.2.1.put rrcRa 6 47 rfl (by rw [hI.1.1.1, hsz]; decide) _ (by rw [hI.1.2.2.1.1]; exact dst_lt (show dstOf rrcOps 6 = some 47 from rfl)), trivial⟩
  · have e0 : c.tmps.getD 41 undef = .agg #[.slice (some ⟨g, o, none⟩) n cap] := hI.1.fact 0 41 rfl (listed hall 0 (by kernel_rfl))
    have f0 := e0
    simp only [Array.getD_eq_getD_getElem?] at e0
    have e6 : c.tmps.getD 47 undef = .int .i64 par := hI.1.fact 6 47 rfl (listed hall 6 (by kernel_rfl))
    have f6 := e6
    simp only [Array.getD_eq_getD_getElem?] at e6
    go_simp
    refine (H1.out wx hS).mono ?_
    rintro e w2 ⟨rfl, hb2⟩
    go_simp
    have hS2 := hS.trans (hb2.mono hBs)
    exact hK' _ _ ⟨hI.1.stepL rrcRa 7 48 rfl (by rw [hsz]; decide) _ _ rfl hall hS2 (fun j _ u h => RrcF.new h hb2) rfl, hI.2.1.put rrcRa 7 48 rfl (by rw [hI.1.1.1, hsz]; decide) _ (by rw [hI.1.2.2.1.1]; exact dst_lt (show dstOf rrcOps 7 = some 48 from rfl)), trivial⟩
  · have e7 : c.tmps.getD 48 undef = .tuple #[.int .i64 a, .int .i64 b, .int .i64 e] := hI.1.fact 7 48 rfl (listed hall 7 (by kernel_rfl))
    have f7 := e7
    simp only [Array.getD_eq_getD_getElem?] at e7
    go_simp
    exact hK' _ _ ⟨hI.1.stepL rrcRa 8 40 rfl (by rw [hsz]; decide) _ _ rfl hall hS (fun _ _ _ h => h) rfl, hI.2.1.put rrcRa 8 40 rfl (by rw [hI.1.1.1, hsz]; decide) _ (by rw [hI.1.2.2.1.1]; exact dst_lt (show dstOf rrcOps 8 = some 40 from rfl)), trivial⟩
  · have e8 : c.tmps.getD 40 undef = .tuple #[.int .i64 a, .int .i64 b, .int .i64 e] := hI.1.fact 8 40 rfl (listed hall 8 (by kernel_rfl))
    have f8 := e8
    simp only [Array.getD_eq_getD_getElem?] at e8
    go_simp
    exact hK' _ _ ⟨hI.1.stepL rrcRa 9 49 rfl (by rw [hsz]; decide) _ _ rfl hall hS (fun _ _ _ h => h) rfl, hI.2.1.put rrcRa 9 49 rfl (by rw [hI.1.1.1, hsz]; decide) _ (by rw [hI.1.2.2.1.1]; exact dst_lt (show dstOf rrcOps 9 = some 49 from rfl)), trivial⟩
  · have e8 : c.tmps.getD 40 undef = .tuple #[.int .i64 a, .int .i64 b, .int .i64 e] := hI.1.fact 8 40 rfl (listed hall 8 (by kernel_rfl))
    have f8 := e8
    simp only [Array.getD_eq_getD_getElem?] at e8
    go_simp
    exact hK' _ _ ⟨hI.1.stepL rrcRa 10 50 rfl (by rw [hsz]; decide) _ _ rfl hall hS (fun _ _ _ h => h) rfl, hI.2.1.put rrcRa 10 50 rfl (by rw [hI.1.1.1, hsz]; decide) _ (by rw [hI.1.2.2.1.1]; exact dst_lt (show dstOf rrcOps 10 = some 50 from rfl)), trivial⟩
  · have e8 : c.tmps.getD 40 undef = .tuple #[.int .i64 a, .int .i64 b, .int .i64 e] := hI.1.fact 8 40 rfl (listed hall 8 (by kernel_rfl))
    have f8 := e8
    simp only [Array.getD_eq_getD_getElem?] at e8
    go_simp
    exact hK' _ _ ⟨hI.1.stepL rrcRa 11 51 rfl (by rw [hsz]; decide) _ _ rfl hall hS (fun _ _ _ h => h) rfl, hI.2.1.put rrcRa 11 51 rfl (by rw [hI.1.1.1, hsz]; decide) _ (by rw [hI.1.2.2.1.1]; exact dst_lt (show dstOf rrcOps 11 = some 51 from rfl)), trivial⟩
  · have e9 : c.tmps.getD 49 undef = .int .i64 a := hI.1.fact 9 49 rfl (listed hall 9 (by kernel_rfl))
    have f9 := e9
    simp only [Array.getD_eq_getD_getElem?] at e9
    go_simp
    exact hK' _ _ ⟨hI.1.stepL rrcRa 12 11 rfl (by rw [hsz]; decide) _ _ rfl hall hS (fun _ _ _ h => h) rfl, hI.2.1.put rrcRa 12 11 rfl (by rw [hI.1.1.1, hsz]; decide) _ (by rw [hI.1.2.2.1.1]; exact dst_lt (show dstOf rrcOps 12 = some 11 from rfl)), trivial⟩
  · have e10 : c.tmps.getD 50 undef = .int .i64 b := hI.1.fact 10 50 rfl (listed hall 10 (by kernel_rfl))
    have f10 := e10
    simp only [Array.getD_eq_getD_getElem?] at e10
    go_simp
    exact hK' _ _ ⟨hI.1.stepL rrcRa 13 12 rfl (by rw [hsz]; decide) _ _ rfl hall hS (fun _ _ _ h => h) rfl, hI.2.1.put rrcRa 13 12 rfl (by rw [hI.1.1.1, hsz]; decide) _ (by rw [hI.1.2.2.1.1]; exact dst_lt (show dstOf rrcOps 13 = some 12 from rfl)), trivial⟩
  · have e11 : c.tmps.getD 51 undef = .int .i64 e := hI.1.fact 11 51 rfl (listed hall 11 (by kernel_rfl))
    have f11 := e11
    simp only [Array.getD_eq_getD_getElem?] at e11
    go_simp
    exact hK' _ _ ⟨hI.1.stepL rrcRa 14 13 rfl (by rw [hsz]; decide) _ _ rfl hall hS (fun _ _ _ h => h) rfl, hI.2.1.put rrcRa 14 13 rfl (by rw [hI.1.1.1, hsz]; decide) _ (by rw [hI.1.2.2.1.1]; exact dst_lt (show dstOf rrcOps 14 = some 13 from rfl)), trivial⟩
end Go.Proofs.YthkoaakicdhnpaaGreat
