/- Contracts of address: count, cells. -/
import Derived.Test.YtjfkjnakmmkkiaaAdrA
namespace Go.Proofs.Ytjfkjnakmmkkiaa
open Go.RowKit

theorem fit_value {T : List NodeT} (h : checkT T = 0) (n : NodeT) (hn : n ∈ T) (p : PropT) (hp : p ∈ n.props) : p.value.size ≤ 256 := by
  have := check_limits h
  unfold limitsT at this
  simp only [Bool.and_eq_true, List.all_eq_true] at this
  have := this.2 _ hn
  unfold fitB at this
  simp only [Bool.and_eq_true, List.all_eq_true, decide_eq_true_eq] at this
  exact this.2 p hp
theorem valueT_size (T : List NodeT) (node : Int) (x : ByteArray) : (valueT T node x).1.size ≤ 256 := by
  unfold valueT
  split
  · simp
  · rename_i h
    have hc : checkT T = 0 := Decidable.byContradiction (fun e => h (.inl e))
    split
    · simp
    · rename_i n hn
      split
      · split
        · rename_i p hp
          exact fit_value hc n (List.mem_of_getElem? hn) p (List.mem_of_getElem? hp)
        · simp
      · simp
/-- How many cells does a property say? -/
def countV (v : ByteArray × Bool) : Int × Bool :=
  if v.2 = false then (1, true) else if cellsOkB v.1 = false ∨ (cellsT v.1).length ≠ 1 ∨ (cellsT v.1).headD 0 < 1 ∨ 2 < (cellsT v.1).headD 0 then (0, false) else ((cellsT v.1).headD 0, true)
def countT (T : List NodeT) (node : Int) (x : ByteArray) : Int × Bool := countV (valueT T node x)
theorem cellsF_len : ∀ (n : Nat) (l : List UInt8), l.length ≤ n → (cellsF l).length * 4 ≤ l.length := by
  intro n
  induction n with
  | zero => intro l h; have : l = [] := List.length_eq_zero_iff.1 (by omega); subst this; simp [cellsF]
  | succ n ih =>
    intro l h
    match l with
    | [] => simp [cellsF]
    | [_] => simp [cellsF]
    | [_, _] => simp [cellsF]
    | [_, _, _] => simp [cellsF]
    | a :: b :: c :: d :: r =>
      have := ih r (by simp at h; omega)
      simp only [cellsF, List.length_cons] at *
      omega
theorem cellsT_len (s : ByteArray) : (cellsT s).length * 4 ≤ s.size := by
  unfold cellsT
  split
  · have := cellsF_len _ s.data.toList (Nat.le_refl _); simpa using this
  · simp
theorem ints_at {w : World} {base : Nat} {T : TypeId} {v : Value} {l : List Int} (h : w.ownsRow base T 1 v l.length (intCells l)) (hl : 0 < l.length) :
    ∃ g cap, v = .slice (some ⟨g, 0, none⟩) l.length cap ∧ l.length ≤ cap ∧ base ≤ g ∧ g < w.heap.size ∧ ∀ (i : Nat) (hi : i < l.length), w.cell? ⟨g, i, none⟩ = some (.int .i64 l[i]) := by
  rcases h.2 with ⟨_, h0⟩ | ⟨g, cap, cur, rfl, hb, hh, hcap, hr⟩
  · omega
  · refine ⟨g, cap, rfl, hcap, hb, lt_of_block hh, fun i hi => ?_⟩
    have hc := h.cells (g := g) rfl i (.int .i64 l[i]) (by simp [intCells, hi])
    have hadd : (⟨g, 0, none⟩ : Addr).add i = ⟨g, i, none⟩ := by unfold Addr.add; split <;> simp_all
    rwa [hadd] at hc

set_option maxHeartbeats 2000000 in
theorem address_count (R : Nat → Prop) (v : Value) (T : List NodeT) (node : Int) (x : ByteArray) (w : World) (hT : NodesIn R w v T) :
    Calls Try.prog 76 #[.agg #[v], .int .i64 node, .string x] w fun e w' => e = .returned (.tuple #[.int .i64 (countT T node x).1, .bool (countT T node x).2]) ∧ Below w.heap.size w w' := by
  obtain ⟨a, cap, rfl, hc1, hc2⟩ := hT.shape
  have HT := Lib.hid hT; clear hT
  have hv := fun wx hx => tree_Value R (.slice a T.length cap) T node x wx hx
  unfold ValuePost at hv
  have hsz := valueT_size T node x
  have hcd := Lib.hid (show countT T node x = countV (valueT T node x) from rfl)
  generalize valueT T node x = V at hv hsz hcd
  obtain ⟨vs, vb⟩ := V
  simp only at hv hsz
  have HV := Lib.hid hv; clear hv
  cases vb with
  | false =>
    have hC := Lib.hid (show countT T node x = (1, true) from by rw [hcd.out]; rfl)
    clear hcd
    go_enter Try.func76, Try.ntmps76
    go_wp2_with fail
    refine (HV.out _ (by exact HT.out.new ((Below.refl w.heap.size w).alloc (Nat.le_refl _) _))).mono ?_
    rintro e w' ⟨rfl, hb⟩
    go_wp2_with fail
    go_ret2
    exact ⟨by rw [hC.out]; rfl, ((Below.refl _ _).alloc (Nat.le_refl _) _).trans (hb.mono (by simp))⟩
  | true =>
    have hpc := fun wx => print_Cells vs wx (by omega) (by omega)
    unfold CellsPost at hpc
    have hcd2 := Lib.hid (show countT T node x = if cellsOkB vs = false ∨ (cellsT vs).length ≠ 1 ∨ (cellsT vs).headD 0 < 1 ∨ 2 < (cellsT vs).headD 0 then (0, false) else ((cellsT vs).headD 0, true) from by rw [hcd.out]; rfl)
    have hbig : (cellsT vs).length ≤ 1000 := by have := cellsT_len vs; omega
    clear hcd
    have hkb : cellsOkB vs = false → cellsT vs = [] := by intro h; unfold cellsT; rw [h]; rfl
    generalize cellsT vs = l at hpc hcd2 hbig hkb
    generalize cellsOkB vs = ok at hpc hcd2 hkb
    have HPC := Lib.hid hpc; clear hpc
    have HKB := Lib.hid hkb; clear hkb
    go_enter Try.func76, Try.ntmps76
    go_wp2_with fail
    refine (HV.out _ (by exact HT.out.new ((Below.refl w.heap.size w).alloc (Nat.le_refl _) _))).mono ?_
    rintro e w1 ⟨rfl, hb⟩
    have hb1 : Below w.heap.size w w1 := ((Below.refl _ _).alloc (Nat.le_refl _) _).trans (hb.mono (by simp))
    go_wp2_with fail
    refine (HPC.out _).mono ?_
    rintro e w2 ⟨lv, rfl, hown, hb2⟩
    have hb3 : Below w.heap.size w w2 := hb1.trans (hb2.mono hb1.size)
    obtain ⟨la, lc, rfl⟩ := owns_slice hown
    by_cases hok : ok = false
    · subst hok
      have hC := Lib.hid (show countT T node x = (0, false) from by rw [hcd2.out, if_pos (.inl rfl)])
      go_wp2_with fail
      go_ret2
      exact ⟨by rw [hC.out]; rfl, hb3⟩
    · have hok' : ok = true := by simpa using hok
      subst hok'
      clear hok
      by_cases h1 : l.length = 1
      · obtain ⟨g, cp, e1, hcp, hg1, hg2, hcell⟩ := ints_at hown (by omega)
        cases e1
        have c0 := hcell 0 (by omega)
        clear hcell
        obtain ⟨q, rfl⟩ : ∃ q, l = [q] := List.length_eq_one_iff.1 h1
        simp only [List.getElem_cons_zero] at c0
        simp only [List.length_cons, List.length_nil] at hcp
        clear h1 hown hbig
        by_cases hlo : q < 1
        · have hC := Lib.hid (show countT T node x = (0, false) from by rw [hcd2.out, if_pos (.inr (.inr (.inl (by simpa using hlo))))])
          go_wp2_with fail
          go_ret2
          exact ⟨by rw [hC.out]; rfl, hb3⟩
        · have hlo' : 1 ≤ q := by omega
          by_cases hhi : 2 < q
          · have hC := Lib.hid (show countT T node x = (0, false) from by rw [hcd2.out, if_pos (.inr (.inr (.inr (by simpa using hhi))))])
            go_wp2_with fail
            go_ret2
            exact ⟨by rw [hC.out]; rfl, hb3⟩
          · have hhi' : q ≤ 2 := by omega
            have hC := Lib.hid (show countT T node x = (q, true) from by
              rw [hcd2.out, if_neg (by rintro (h | h | h | h); cases h; exact h rfl; simp at h; omega; simp at h; omega)]; rfl)
            go_wp2_with fail
            go_ret2
            exact ⟨by rw [hC.out]; rfl, hb3⟩
      · have hlb : ((l.length : Int) != 1) = true := by rw [bne_iff_ne]; omega
        have hC := Lib.hid (show countT T node x = (0, false) from by rw [hcd2.out, if_pos (.inr (.inl h1))])
        clear h1
        go_wp2_with fail
        go_ret2
        exact ⟨by rw [hC.out]; rfl, hb3⟩

def nmAC : ByteArray := ⟨#[35, 97, 100, 100, 114, 101, 115, 115, 45, 99, 101, 108, 108, 115]⟩
def nmSC : ByteArray := ⟨#[35, 115, 105, 122, 101, 45, 99, 101, 108, 108, 115]⟩
/-- The numbers of cells of a node of a valid tree. -/
def pairT (T : List NodeT) (node : Int) : Int × Int × Int :=
  if (countT T node nmAC).2 = false ∨ (countT T node nmSC).2 = false then (0, 0, 26) else ((countT T node nmAC).1, (countT T node nmSC).1, 0)

set_option maxHeartbeats 2000000 in
theorem address_cells (R : Nat → Prop) (v : Value) (T : List NodeT) (node : Int) (w : World) (hT : NodesIn R w v T) :
    Calls Try.prog 40 #[.agg #[v], .int .i64 node] w fun e w' => e = .returned (.tuple #[.int .i64 (pairT T node).1, .int .i64 (pairT T node).2.1, .int .i64 (pairT T node).2.2]) ∧ Below w.heap.size w w' := by
  obtain ⟨a, cap, rfl, hc1, hc2⟩ := hT.shape
  have HT := Lib.hid hT; clear hT
  have h1 := fun wx hx => address_count R (.slice a T.length cap) T node nmAC wx hx
  have h2 := fun wx hx => address_count R (.slice a T.length cap) T node nmSC wx hx
  have hcd := Lib.hid (show pairT T node = if (countT T node nmAC).2 = false ∨ (countT T node nmSC).2 = false then (0, 0, 26) else ((countT T node nmAC).1, (countT T node nmSC).1, 0) from rfl)
  generalize countT T node nmAC = C1 at h1 hcd
  generalize countT T node nmSC = C2 at h2 hcd
  obtain ⟨y1, b1⟩ := C1
  obtain ⟨y2, b2⟩ := C2
  unfold nmAC at h1
  unfold nmSC at h2
  have H1 := Lib.hid h1; clear h1
  have H2 := Lib.hid h2; clear h2
  cases b1 with
  | false =>
    have hC := Lib.hid (show pairT T node = (0, 0, 26) from by rw [hcd.out, if_pos (.inl rfl)])
    go_enter Try.func40, Try.ntmps40
    go_wp2_with fail
    refine (H1.out _ (by exact HT.out.new ((Below.refl w.heap.size w).alloc (Nat.le_refl _) _))).mono ?_
    rintro e w1 ⟨rfl, hb⟩
    have hb1 : Below w.heap.size w w1 := ((Below.refl _ _).alloc (Nat.le_refl _) _).trans (hb.mono (by simp))
    have hB := (Holds.new w #[.slice a T.length cap] 27).keeps (Keeps.of_fresh hb (fun _ => False)) (fun e => e)
    have bx := hB.cell 0
    have blt := hB.lt
    go_wp2_with fail
    refine (H2.out _ (by exact HT.out.new hb1)).mono ?_
    rintro e w2 ⟨rfl, hb2⟩
    go_wp2_with fail
    go_ret3
    exact ⟨by rw [hC.out]; rfl, hb1.trans (hb2.mono hb1.size)⟩
  | true =>
    cases b2 with
    | false =>
      have hC := Lib.hid (show pairT T node = (0, 0, 26) from by rw [hcd.out, if_pos (.inr rfl)])
      go_enter Try.func40, Try.ntmps40
      go_wp2_with fail
      refine (H1.out _ (by exact HT.out.new ((Below.refl w.heap.size w).alloc (Nat.le_refl _) _))).mono ?_
      rintro e w1 ⟨rfl, hb⟩
      have hb1 : Below w.heap.size w w1 := ((Below.refl _ _).alloc (Nat.le_refl _) _).trans (hb.mono (by simp))
      have hB := (Holds.new w #[.slice a T.length cap] 27).keeps (Keeps.of_fresh hb (fun _ => False)) (fun e => e)
      have bx := hB.cell 0
      have blt := hB.lt
      go_wp2_with fail
      refine (H2.out _ (by exact HT.out.new hb1)).mono ?_
      rintro e w2 ⟨rfl, hb2⟩
      go_wp2_with fail
      go_ret3
      exact ⟨by rw [hC.out]; rfl, hb1.trans (hb2.mono hb1.size)⟩
    | true =>
      have hC := Lib.hid (show pairT T node = (y1, y2, 0) from by rw [hcd.out, if_neg (by simp)])
      go_enter Try.func40, Try.ntmps40
      go_wp2_with fail
      refine (H1.out _ (by exact HT.out.new ((Below.refl w.heap.size w).alloc (Nat.le_refl _) _))).mono ?_
      rintro e w1 ⟨rfl, hb⟩
      have hb1 : Below w.heap.size w w1 := ((Below.refl _ _).alloc (Nat.le_refl _) _).trans (hb.mono (by simp))
      have hB := (Holds.new w #[.slice a T.length cap] 27).keeps (Keeps.of_fresh hb (fun _ => False)) (fun e => e)
      have bx := hB.cell 0
      have blt := hB.lt
      go_wp2_with fail
      refine (H2.out _ (by exact HT.out.new hb1)).mono ?_
      rintro e w2 ⟨rfl, hb2⟩
      go_wp2_with fail
      go_ret3
      exact ⟨by rw [hC.out]; rfl, hb1.trans (hb2.mono hb1.size)⟩
end Go.Proofs.Ytjfkjnakmmkkiaa
