/- Copying rows of elements of more than one cell; a property put into a row of properties (plain). | Contracts of slices.Delete at a row of properties, one property taken out. | Contracts of slices.Insert at a row of properties. -/
import Derived.Test.YtjfkjnakmmkkiaaGreatZ6
import Derived.Laws.CopyRow
import Derived.Shelf.Spec.SlicesInsertGrow
import Derived.Deep.RegionLaw
import Derived.Lib.SliceRun

namespace Go.Proofs.YtjfkjnakmmkkiaaGreat
open Go.RowKit

theorem run_copy_rowN {P : Program} (w : World) (dT sT ty elem : TypeId) (size g o dLen dCap : Nat) (a : Addr) (sLen sCap : Nat) (cur : Array Value) (t : TypeId) (cs : List Value)
    (hu : P.underlying dT = some (.slice elem)) (hs : (P.info? elem).map (·.size) = some size)
    (hg : w.heap[g]? = some (.cells cur t (0, 0))) (n : Nat) (hm : Nat.min sLen dLen = n) (hn : cs.length = n * size)
    (hsrc : ∀ j v, cs[j]? = some v → w.cell? (a.add j) = some v) (hfit : o + cs.length ≤ cur.size) (h1 : ∀ v ∈ cs, v.oneCell' = true) :
    (Builtin.copy_ #[dT, sT] ty #[.slice (some ⟨g, o, none⟩) dLen dCap, .slice (some a) sLen sCap]).run P w =
      .ok (goInt n) (w.setRow g (cur.toList.take o ++ cs ++ cur.toList.drop (o + cs.length)).toArray) := by
  have hl := run_loadCells_list (P := P) w a cs hsrc
  have hst := run_storeCells_at P g o t cs 0 cur w hg (by simpa using hfit) h1
  rw [hn] at hl
  cases hq : P.info? elem with
  | none => simp [hq] at hs
  | some i =>
    have hi : i.size = size := by simpa [hq] using hs
    simp [Builtin.copy_, run_underlying hu, Builtin.lenOf, Builtin.firstCells, sizeOf, typeInfo, hq, hi, hm, hl, hst]

theorem insCells_append (a b : List PropT) : propCells (a ++ b) = propCells a ++ propCells b := by
  induction a with
  | nil => rfl
  | cons x a ih => show _ :: _ :: propCells (a ++ b) = _; rw [ih]; rfl
theorem insCells_take (ps : List PropT) : ∀ i, (propCells ps).take (i * 2) = propCells (ps.take i) := by
  induction ps with
  | nil => intro i; simp [propCells]
  | cons x ps ih =>
    intro i
    cases i with
    | zero => rfl
    | succ i =>
      rw [show (i + 1) * 2 = i * 2 + 1 + 1 from by omega]
      show _ :: _ :: (propCells ps).take (i * 2) = _ :: _ :: propCells (ps.take i)
      rw [ih]
theorem insCells_drop (ps : List PropT) : ∀ i, (propCells ps).drop (i * 2) = propCells (ps.drop i) := by
  induction ps with
  | nil => intro i; simp [propCells]
  | cons x ps ih =>
    intro i
    cases i with
    | zero => rfl
    | succ i =>
      rw [show (i + 1) * 2 = i * 2 + 1 + 1 from by omega]
      show (propCells ps).drop (i * 2) = propCells (ps.drop i)
      rw [ih]
/-- A property at a place of a row. -/
def insP (ps : List PropT) (i : Nat) (p : PropT) : List PropT := ps.take i ++ p :: ps.drop i
theorem insP_len {ps : List PropT} {i : Nat} (p : PropT) (h : i ≤ ps.length) : (insP ps i p).length = ps.length + 1 := by
  unfold insP; simp; omega
theorem insP_cells (ps : List PropT) (i : Nat) (p : PropT) : propCells (insP ps i p) = (propCells ps).take (i * 2) ++ [.string p.name, .string p.value] ++ (propCells ps).drop (i * 2) := by
  unfold insP
  rw [insCells_append, insCells_take, insCells_drop, List.append_assoc]; rfl
theorem insP_mem {ps : List PropT} {i : Nat} {p q : PropT} (h : q ∈ insP ps i p) : q ∈ ps ∨ q = p := by
  unfold insP at h
  rcases List.mem_append.1 h with h | h
  · exact Or.inl (List.mem_of_mem_take h)
  · rcases List.mem_cons.1 h with h | h
    · exact Or.inr h
    · exact Or.inl (List.mem_of_mem_drop h)
/-- The cells behind the two copies that make room in place. -/
theorem shift_cells {α : Type} (c nw xs : List α) (a n : Nat) (hn : nw.length = 2) (hx : c.take n = xs) (hc : n + 2 ≤ c.length) (ha : a ≤ n) :
    ((c.take (a + 2) ++ xs.drop a ++ c.drop (a + 2 + (xs.drop a).length)).take a ++ nw ++ (c.take (a + 2) ++ xs.drop a ++ c.drop (a + 2 + (xs.drop a).length)).drop (a + nw.length)).take (n + 2) = xs.take a ++ nw ++ xs.drop a := by
  have hxl : xs.length = n := by rw [← hx, List.length_take]; omega
  have h1 : (c.take (a + 2) ++ xs.drop a ++ c.drop (a + 2 + (xs.drop a).length)).take a = xs.take a := by
    rw [List.append_assoc, List.take_append_of_le_length (by rw [List.length_take]; omega), List.take_take, ← hx, List.take_take]
    congr 1; omega
  have h2 : (c.take (a + 2) ++ xs.drop a ++ c.drop (a + 2 + (xs.drop a).length)).drop (a + nw.length) = xs.drop a ++ c.drop (a + 2 + (xs.drop a).length) := by
    rw [hn, List.append_assoc, List.drop_append_of_le_length (by rw [List.length_take]; omega), List.drop_take]
    simp
  rw [h1, h2, ← List.append_assoc, List.take_append_of_le_length (by simp; omega), List.take_of_length_le (by simp; omega)]
/-- .. and those in a new row. -/
theorem grow_cells {α : Type} (c nw xs : List α) (a n : Nat) (hn : nw.length = 2) (hx : c.take a = xs.take a) (hxl : xs.length = n) (hc : n + 2 ≤ c.length) (ha : a ≤ n) :
    ((c.take a ++ nw ++ c.drop (a + nw.length)).take (a + 2) ++ xs.drop a ++ (c.take a ++ nw ++ c.drop (a + nw.length)).drop (a + 2 + (xs.drop a).length)).take (n + 2) = xs.take a ++ nw ++ xs.drop a := by
  have h1 : (c.take a ++ nw ++ c.drop (a + nw.length)).take (a + 2) = xs.take a ++ nw := by
    rw [List.take_append_of_le_length (by simp; omega), List.take_of_length_le (by simp; omega), hx]
  rw [h1, List.take_append_of_le_length (by simp; omega), List.take_of_length_le (by simp; omega)]
theorem setRow_keeps (w : World) (g : Nat) (cs : Array Value) : Keeps (· = g) w (w.setRow g cs) :=
  ⟨rfl, rfl, rfl, by simp, fun i _ hn => setRow_other w g i cs hn⟩
end Go.Proofs.YtjfkjnakmmkkiaaGreat

namespace Go.Proofs.YtjfkjnakmmkkiaaGreat
open Go.RowKit Go.Lib

/-- A row of properties without the one at a place. -/
def delP (ps : List PropT) (k : Nat) : List PropT := ps.take k ++ ps.drop (k + 1)
theorem delP_cells (ps : List PropT) (k : Nat) : propCells (delP ps k) = (propCells ps).take (k * 2) ++ (propCells ps).drop ((k + 1) * 2) := by
  unfold delP; rw [insCells_append, insCells_take, insCells_drop]
theorem delP_len {ps : List PropT} {k : Nat} (h : k < ps.length) : (delP ps k).length = ps.length - 1 := by
  unfold delP; simp; omega
theorem delP_mem {ps : List PropT} {k : Nat} {q : PropT} (h : q ∈ delP ps k) : q ∈ ps := by
  unfold delP at h
  rcases List.mem_append.1 h with h | h
  · exact List.mem_of_mem_take h
  · exact List.mem_of_mem_drop h
theorem setCells_row {w : World} {b o : Nat} {cur : Array Value} {t : TypeId} {vs : List Value} (h : Holds w b cur t) (hl : o + vs.length ≤ cur.size) (h1 : ∀ v ∈ vs, v.oneCell' = true) :
    w.setCells b o vs = w.setRow b (cur.toList.take o ++ vs ++ cur.toList.drop (o + vs.length)).toArray := by
  have e1 := run_storeCells_at (P := Tryz.prog) b o t vs 0 cur w h (by simpa using hl) h1
  have e2 := run_storeCells_cells (P := Tryz.prog) b o vs 0 w (fun j hj => by
      rw [h.cell (o + 0 + j)]
      simp
      omega) (fun j hj => h.free _) h1
  simp only [Nat.add_zero] at e1 e2
  rw [e1] at e2
  injection e2 with _ h2
  exact h2.symm
theorem del_cells {α : Type} (c zs xs : List α) (a n : Nat) (hx : c.take n = xs) (hxl : xs.length = n) (ha : a + 2 ≤ n) (hc : n ≤ c.length) :
    ((c.take a ++ xs.drop (a + 2) ++ c.drop (a + (xs.drop (a + 2)).length)).take (n - 2) ++ zs ++ (c.take a ++ xs.drop (a + 2) ++ c.drop (a + (xs.drop (a + 2)).length)).drop (n - 2 + zs.length)).take (n - 2) = xs.take a ++ xs.drop (a + 2) := by
  have h1 : c.take a = xs.take a := by rw [← hx, List.take_take]; congr 1; omega
  have h2 : (c.take a ++ xs.drop (a + 2) ++ c.drop (a + (xs.drop (a + 2)).length)).take (n - 2) = xs.take a ++ xs.drop (a + 2) := by
    rw [List.take_append_of_le_length (by simp; omega), List.take_of_length_le (by simp; omega), h1]
  rw [h2, List.append_assoc, List.take_append_of_le_length (by simp; omega), List.take_of_length_le (by simp; omega)]

set_option maxHeartbeats 4000000 in
set_option maxRecDepth 100000 in
theorem props_Delete (base : Nat) (v : Value) (ps : List PropT) (k : Nat) (w : World) (hr : PropRow w base v ps) (hk : k < ps.length) (hl : ps.length ≤ 1000) :
    Calls Tryz.prog 116 #[v, .int .i64 k, .int .i64 ((k : Int) + 1)] w fun e w' => ∃ v', e = .returned v' ∧ PropRow w' base v' (delP ps k) ∧ Keeps (fun g => v.ownBlock = some g) w w' := by
  obtain ⟨i0, hi0, hz0, hz1, hz2⟩ := info_parts infoProp
  have hok : ∀ q ∈ delP ps k, PropOk q := fun q hq => hr.2 q (delP_mem hq)
  have HOK := Lib.hid hok
  have hcells := Lib.hid (delP_cells ps k)
  have hlen := delP_len hk
  rcases hr.1.2 with ⟨_, h0⟩ | ⟨g, cap, cur, rfl, hb, hh, hc, hm, hs, ht⟩
  · omega
  have hxl := propCells_len ps
  have hX1 := propCells_one ps
  have hH : Holds w g cur 83 := hh
  unfold maxLen at hm
  have hgl : g < w.heap.size := lt_of_block hh
  have hcur : ∀ j u, (propCells ps)[j]? = some u → w.cell? ⟨g, j, none⟩ = some u := fun j u hj => by
    have hj2 : j < (propCells ps).length := (List.getElem?_eq_some_iff.1 hj).1
    rw [hH.cell j, ← hj, ← ht, List.getElem?_take_of_lt (by omega)]; simp
  generalize hxs : propCells ps = xs at *
  have hsz : (Tryz.prog.info? 83).map (·.size) = some 2 := by rw [hi0]; simp [hz1]
  have hdl : (xs.drop ((k + 1) * 2)).length = (ps.length - (k + 1)) * 2 := by rw [List.length_drop, hxl]; omega
  have hone : ∀ u ∈ xs.drop ((k + 1) * 2), u.oneCell' = true := fun u hu => hX1 u (List.mem_of_mem_drop hu)
  obtain ⟨row1, hrow1⟩ : ∃ x : Array Value, x = (cur.toList.take (k * 2) ++ xs.drop ((k + 1) * 2) ++ cur.toList.drop (k * 2 + (xs.drop ((k + 1) * 2)).length)).toArray := ⟨_, rfl⟩
  obtain ⟨row2, hrow2⟩ : ∃ x : Array Value, x = (row1.toList.take ((ps.length - 1) * 2) ++ [Value.string ⟨#[]⟩, Value.string ⟨#[]⟩] ++ row1.toList.drop ((ps.length - 1) * 2 + 2)).toArray := ⟨_, rfl⟩
  have hs1 : row1.size = cap * 2 := by rw [hrow1]; simp; omega
  have hs2 : row2.size = cap * 2 := by rw [hrow2]; simp; omega
  have htk : row2.toList.take ((ps.length - 1) * 2) = xs.take (k * 2) ++ xs.drop ((k + 1) * 2) := by
    have := del_cells cur.toList [Value.string ⟨#[]⟩, Value.string ⟨#[]⟩] xs (k * 2) (ps.length * 2) ht hxl (by omega) (by simp; omega)
    rw [show k * 2 + 2 = (k + 1) * 2 from by omega, show ps.length * 2 - 2 = (ps.length - 1) * 2 from by omega] at this
    rw [hrow2, hrow1]
    exact this
  have hW1 : w.drew.setCells g (0 + k * 2) (xs.drop ((k + 1) * 2)) = w.drew.setRow g row1 := by
    rw [hrow1, Nat.zero_add]
    exact setCells_row (show Holds w.drew g cur 83 from hH) (by omega) hone
  have hcl : ∀ ty dc, (Builtin.clear_ #[74] ty #[.slice (some ⟨g, (ps.length - 1) * 2, none⟩) 1 dc]).run Tryz.prog (w.drew.setRow g row1) = .ok (.tuple #[]) ((w.drew.setRow g row1).setRow g row2) := fun ty dc => by
    have hst := run_storeCells_at (P := Tryz.prog) g ((ps.length - 1) * 2) 83 [Value.string ⟨#[]⟩, Value.string ⟨#[]⟩] 0 row1 (w.drew.setRow g row1) (setRow_heap _ _ cur row1 _ _ (show w.drew.heap[g]? = _ from hh)) (by simp; omega) (fun u hu => by simp at hu; rcases hu with rfl | rfl <;> rfl)
    simp only [Nat.add_zero] at hst
    rw [show [Value.string ⟨#[]⟩, Value.string ⟨#[]⟩].length = 2 from rfl, ← hrow2] at hst
    have hzc : (Builtin.zeroCells (Value.agg #[.string ⟨#[]⟩, .string ⟨#[]⟩]).cells 1).toList = [Value.string ⟨#[]⟩, Value.string ⟨#[]⟩] := by kernel_rfl
    simp [Builtin.clear_, run_underlying Tryz.underlying74, hzc, hst]
  have hfin : ∀ W : World, W.heap = ((w.setRow g row1).setRow g row2).heap → W.os = w.os → W.tape = w.tape → W.output = w.output → PropRow W base (.slice (some ⟨g, 0, none⟩) (ps.length - 1) cap) (delP ps k) ∧ Keeps (fun b => (Value.slice (some ⟨g, 0, none⟩) ps.length cap).ownBlock = some b) w W := fun W hW h1 h2 h3 => by
    refine ⟨⟨⟨by rw [hcells.out, hlen]; simp [hxl]; omega, .inr ⟨g, cap, row2, by rw [hlen], hb, ?_, by omega, by unfold maxLen; omega, hs2, ?_⟩⟩, HOK.out⟩, h1, h2, h3, ?_, ?_⟩
    · rw [hW]; exact setRow_heap _ g row1 row2 _ _ (setRow_heap w g cur row1 _ _ hh)
    · rw [hlen, hcells.out, htk]
    · rw [hW]; simp
    · intro j hj hn
      have hkg : j ≠ g := fun e => hn (by rw [e]; rfl)
      rw [hW, setRow_other _ g j _ hkg, setRow_other _ g j _ hkg]
  have mixed : Tryz.prog.follows Departure.mixedOrders = true := by kernel_rfl
  have hspare : ∀ j, j < (xs.drop ((k + 1) * 2)).length → (w.drew.cell? ⟨g, 0 + k * 2 + j, none⟩).isSome = true ∧ w.drew.frozen? ⟨g, 0 + k * 2 + j, none⟩ = false := fun j hj => by
    refine ⟨?_, hH.free _⟩
    rw [show w.drew.cell? ⟨g, 0 + k * 2 + j, none⟩ = w.cell? ⟨g, 0 + k * 2 + j, none⟩ from rfl, hH.cell]
    simp
    omega
  have hsrc : ∀ j u, (xs.drop ((k + 1) * 2))[j]? = some u → w.drew.cell? ((⟨g, (k + 1) * 2, none⟩ : Addr).add j) = some u := fun j u hj => by
    rw [Addr.add_lit]
    exact hcur _ u (by rwa [List.getElem?_drop] at hj)
  have HFIN := Lib.hid hfin
  have HCL := Lib.hid hcl
  have HW1 := Lib.hid hW1
  have HSP := Lib.hid hspare
  have HSRC := Lib.hid hsrc
  have HDL := Lib.hid hdl
  have HONE := Lib.hid hone
  have hk1 : ((k : Int) + 1).toNat = k + 1 := by omega
  have hk2 : (0 : Int) ≤ (k : Int) + 1 := by omega
  have hk3 : (k : Int) + 1 ≤ (ps.length : Int) := by omega
  have hk4 : ¬ ((k : Int) = (k : Int) + 1) := by omega
  have hk5 : k + (ps.length - (k + 1)) = ps.length - 1 := by omega
  have hk6 : ps.length - (ps.length - 1) = 1 := by omega
  have hnil : cap = k + 1 → xs.drop ((k + 1) * 2) = [] := fun e => List.drop_eq_nil_of_le (by omega)
  have HNIL := Lib.hid hnil
  clear hr hok hfin hcl hs1 hs2 htk hrow1 hrow2 ht hs hcur hH hh hspare hsrc hdl hone hnil hW1
  have hic : k ≤ cap := by omega
  by_cases hcn : cap = k + 1
  · have hpl : ps.length = k + 1 := by omega
    have hz : (xs.drop ((k + 1) * 2)).length = 0 * 2 := by rw [HNIL.out hcn]; rfl
    have hsrc2 : ∀ j u, (xs.drop ((k + 1) * 2))[j]? = some u → w.drew.cell? ((⟨g, 0, none⟩ : Addr).add j) = some u := fun j u hj => by rw [HNIL.out hcn] at hj; simp at hj
    have HZ := Lib.hid hz
    have HSRC2 := Lib.hid hsrc2
    have hk7 : (k : Int) ≤ (k : Int) + 1 := by omega
    have hfin2 := HFIN.out
    have hcl2 := HCL.out
    subst hcn
    rw [hpl, show k + 1 - 1 = k from rfl] at hfin2 hcl2
    have HF2 := Lib.hid hfin2
    have HC2 := Lib.hid hcl2
    clear hz hsrc2 hfin2 hcl2 HCL HFIN
    go_enter Tryz.func116, Tryz.ntmps116
    go_wp2_with fail
    go_region_law_o (refine step_append_room rfl (.tmp 22) (.tmp 25) 74 rfl 83 i0 2 Tryz.underlying74 hi0 hz1 g 0 k (k + 1) (by simp [Act.eval, Act.put]) ⟨g, 0, none⟩ 0 0 (xs.drop ((k + 1) * 2)) (by simp [Act.eval, Act.put]) HZ.out HSRC2.out HONE.out (by omega) HSP.out ?_; rw [HW1.out, Nat.add_zero])
    go_wp2_with (simp only [HC2.out])
    go_ret
    exact ⟨_, rfl, HF2.out _ rfl rfl rfl rfl⟩
  · have hcn' : ¬ (k + 1 = cap) := fun e => hcn e.symm
    have hcm : ¬ (cap = ps.length - 1) := by omega
    go_enter Tryz.func116, Tryz.ntmps116
    go_wp2_with fail
    go_region_law_o (refine step_append_room rfl (.tmp 22) (.tmp 25) 74 rfl 83 i0 2 Tryz.underlying74 hi0 hz1 g 0 k cap (by simp [Act.eval, Act.put]) ⟨g, (k + 1) * 2, none⟩ (ps.length - (k + 1)) (cap - (k + 1)) (xs.drop ((k + 1) * 2)) (by simp [Act.eval, Act.put]) HDL.out HSRC.out HONE.out (by omega) HSP.out ?_; rw [HW1.out, hk5])
    go_wp2_with (simp only [HCL.out])
    go_ret
    exact ⟨_, rfl, HFIN.out _ rfl rfl rfl rfl⟩
end Go.Proofs.YtjfkjnakmmkkiaaGreat

namespace Go.Proofs.YtjfkjnakmmkkiaaGreat
open Go.RowKit Go.Lib

set_option maxHeartbeats 4000000 in
set_option maxRecDepth 100000 in
theorem props_Insert (base N : Nat) (v : Value) (ps : List PropT) (i : Nat) (p : PropT) (w : World) (hr : PropRow w base v ps) (hi : i ≤ ps.length) (hl : ps.length ≤ 1000) (hN : Holds w N #[.string p.name, .string p.value] 83) (hne : v.ownBlock ≠ some N) (hp : PropOk p) (hbase : base ≤ w.heap.size) :
    Calls Tryz.prog 110 #[v, .int .i64 i, .slice (some ⟨N, 0, none⟩) 1 1] w fun e w' => ∃ v', e = .returned v' ∧ PropRow w' base v' (insP ps i p) ∧ Keeps (fun g => v.ownBlock = some g) w w' := by
  obtain ⟨i0, hi0, hz0, hz1, hz2⟩ := info_parts infoProp
  have hnew : ∀ j u, ([.string p.name, .string p.value] : List Value)[j]? = some u → w.cell? ((⟨N, 0, none⟩ : Addr).add j) = some u := fun j u hj => by
    rw [Addr.add_lit, Nat.zero_add, hN.cell j]; simpa using hj
  have hone : ∀ u ∈ ([.string p.name, .string p.value] : List Value), u.oneCell' = true := fun u hu => by simp at hu; rcases hu with rfl | rfl <;> rfl
  have hok : ∀ q ∈ insP ps i p, PropOk q := fun q hq => by
    rcases insP_mem hq with h | h
    · exact hr.2 q h
    · rw [h]; exact hp
  have HOK := Lib.hid hok
  have hcells := Lib.hid (insP_cells ps i p)
  have hlen := insP_len p hi
  by_cases hin : i = ps.length
  · subst hin
    obtain ⟨va, vc, rfl⟩ := row_slice hr.1
    have HR := Lib.hid hr
    have HC := Lib.hid hnew
    clear hr hok hnew
    by_cases hvc : vc = ps.length
    all_goals try subst hvc
    all_goals
      go_enter Tryz.func110, Tryz.ntmps110
      go_wp2_with (at_builtin; refine wpList_append_own _ rfl _ _ 74 rfl base 83 i0 (.agg #[.string ⟨#[]⟩, .string ⟨#[]⟩]) 2 32 Tryz.underlying74 hi0 hz0 hz1 hz2 rfl (by decide) _ ps.length (propCells ps) rfl (by exact HR.out.1) ⟨N, 0, none⟩ 1 1 [.string p.name, .string p.value] rfl rfl HC.out hone (by unfold maxLen; omega) (by omega) hbase ?_)
      intro v' w5 hown' hgrow _
      go_wp2_with fail
      go_ret
      refine ⟨_, rfl, ⟨?_, HOK.out⟩, Keeps.of_grown hgrow (fun _ e => e)⟩
      rw [hcells.out, hlen, List.take_of_length_le (by rw [propCells_len]; omega), List.drop_eq_nil_of_le (by rw [propCells_len]; omega), List.append_nil]
      exact hown'
  · have hin2 : i < ps.length := by omega
    rcases hr.1.2 with ⟨_, h0⟩ | ⟨g, cap, cur, rfl, hb, hh, hc, hm, hs, ht⟩
    · omega
    have hgN : g ≠ N := fun e => hne (by rw [e]; rfl)
    have hxl := propCells_len ps
    have hX1 := propCells_one ps
    have HH := Lib.hid hh
    unfold maxLen at hm
    have hgl : g < w.heap.size := lt_of_block hh
    have hcur : ∀ j u, (propCells ps)[j]? = some u → w.cell? ⟨g, j, none⟩ = some u := fun j u hj => by
      have hH : Holds w g cur 83 := hh
      have hj2 : j < (propCells ps).length := (List.getElem?_eq_some_iff.1 hj).1
      rw [hH.cell j, ← hj, ← ht, List.getElem?_take_of_lt (by omega)]; simp
    generalize hxs : propCells ps = xs at *
    have hsz : (Tryz.prog.info? 83).map (·.size) = some 2 := by rw [hi0]; simp [hz1]
    have hiz : ¬ ((i : Int) = (ps.length : Int)) := by omega
    have hw1 : IntKind.i64.wrap ((ps.length : Int) + 1) = (ps.length : Int) + 1 := by rw [IntKind.wrap_i64]; omega
    have hw2 : IntKind.i64.wrap ((i : Int) + 1) = (i : Int) + 1 := by rw [IntKind.wrap_i64]; omega
    have hdl : (xs.drop (i * 2)).length = (ps.length - i) * 2 := by rw [List.length_drop, hxl]; omega
    have hmin1 : Nat.min (ps.length + 1 - i) (ps.length - i) = ps.length - i := by simp only [Nat.min_def]; split <;> omega
    have hmin2 : Nat.min (ps.length - i) (ps.length - i) = ps.length - i := by simp only [Nat.min_def]; split <;> omega
    have hmin3 : Nat.min 1 (ps.length + 1 - i) = 1 := by simp only [Nat.min_def]; split <;> omega
    have hbw : N < w.heap.size := hN.lt
    by_cases hroom : ps.length + 1 ≤ cap
    · have hsc := Lib.hid (shift_cells cur.toList [Value.string p.name, Value.string p.value] xs (i * 2) (ps.length * 2) rfl ht (by simp; omega) (by omega))
      obtain ⟨cur1, hcur1⟩ : ∃ x : Array Value, x = (cur.toList.take (i * 2 + 2) ++ xs.drop (i * 2) ++ cur.toList.drop (i * 2 + 2 + (xs.drop (i * 2)).length)).toArray := ⟨_, rfl⟩
      obtain ⟨cur2, hcur2⟩ : ∃ x : Array Value, x = (cur1.toList.take (i * 2) ++ [Value.string p.name, Value.string p.value] ++ cur1.toList.drop (i * 2 + 2)).toArray := ⟨_, rfl⟩
      have hs1 : cur1.size = cap * 2 := by rw [hcur1]; simp; omega
      have hs2 : cur2.size = cap * 2 := by rw [hcur2]; simp; omega
      have htk : cur2.toList.take ((ps.length + 1) * 2) = xs.take (i * 2) ++ [.string p.name, .string p.value] ++ xs.drop (i * 2) := by
        rw [hcur2, hcur1, show (ps.length + 1) * 2 = ps.length * 2 + 2 from by omega]; exact hsc.out
      have hcp1 : ∀ (W : World), W.heap = w.heap → ∀ ty dc sc, (Builtin.copy_ #[74, 74] ty #[.slice (some ⟨g, (i + 1) * 2, none⟩) (ps.length - i) dc, .slice (some ⟨g, i * 2, none⟩) (ps.length + 1 - i) sc]).run Tryz.prog W = .ok (goInt ((ps.length - i : Nat) : Int)) (W.setRow g cur1) := fun W hW ty dc sc => by
        rw [hcur1, show i * 2 + 2 = (i + 1) * 2 from by omega]
        exact run_copy_rowN W _ _ ty 83 2 g ((i + 1) * 2) (ps.length - i) dc ⟨g, i * 2, none⟩ (ps.length + 1 - i) sc cur 83 (xs.drop (i * 2)) Tryz.underlying74 hsz (by rw [hW]; exact HH.out) (ps.length - i) hmin1 hdl
          (fun j u hj => by
            rw [Addr.add_lit, World.cell?_of_block (w := w) (by rw [hW])]
            exact hcur _ u (by rwa [List.getElem?_drop] at hj)) (by omega) (fun u hu => hX1 u (List.mem_of_mem_drop hu))
      have hcp2 : ∀ (W : World), W.heap = (w.setRow g cur1).heap → ∀ ty dc, (Builtin.copy_ #[74, 74] ty #[.slice (some ⟨g, i * 2, none⟩) (ps.length + 1 - i) dc, .slice (some ⟨N, 0, none⟩) 1 1]).run Tryz.prog W = .ok (goInt 1) (W.setRow g cur2) := fun W hW ty dc => by
        rw [hcur2]
        exact run_copy_rowN W _ _ ty 83 2 g (i * 2) (ps.length + 1 - i) dc ⟨N, 0, none⟩ 1 1 cur1 83 [.string p.name, .string p.value] Tryz.underlying74 hsz (by rw [hW]; exact setRow_heap w g cur cur1 _ _ HH.out) 1 hmin3 rfl
          (fun j u hj => by
            rw [World.cell?_of_block (w := w) (by rw [hW, Addr.add_lit]; exact setRow_other w g N cur1 (Ne.symm hgN))]
            exact hnew j u hj) (by simp; omega) hone
      have hov : ∀ lb cb, (callFunc 137 #[.slice (some ⟨N, 0, none⟩) 1 1, .slice (some ⟨g, (i + 1) * 2, none⟩) lb cb]).run Tryz.prog w = .ok (.value (.bool false)) w := fun lb cb => by
        rw [run_callFunc_extern Tryz.func137 (by kernel_rfl) (by kernel_rfl) (by kernel_rfl) (e := Extern.SlicesOverlaps.overlaps #[74, 74] #[4]) (by kernel_rfl),
          Lib.run_overlaps_apart w 74 4 83 Tryz.underlying74 2 Tryz.sizeOf83 ⟨N, 0, none⟩ ⟨g, (i + 1) * 2, none⟩ 1 1 lb cb (Ne.symm hgN) 83 83 2 cur.size
            (by unfold World.shape?; rw [hN.out]; rfl) (by unfold World.shape?; rw [HH.out]) (by omega) (hN.free 0) (hN.free 2)]
        rfl
      have hb1 : (0 : Int) ≤ (i : Int) + 1 := by omega
      have htn : ((i : Int) + 1).toNat = i + 1 := by omega
      have hb2 : ¬ (cap = i + 1) := by omega
      have hb3 : (i : Int) ≤ (ps.length : Int) + 1 := by omega
      have hb4 : ¬ (cap = i) := by omega
      have hfin : ∀ (W : World), W.heap = ((w.setRow g cur1).setRow g cur2).heap → W.os = w.os → W.tape = w.tape → W.output = w.output → PropRow W base (.slice (some ⟨g, 0, none⟩) (ps.length + 1) cap) (insP ps i p) ∧ Keeps (fun b => (Value.slice (some ⟨g, 0, none⟩) ps.length cap).ownBlock = some b) w W := fun W hW h1 h2 h3 => by
        refine ⟨⟨⟨by rw [hcells.out, hlen, ← hxs] at *; simp [hxl]; omega, .inr ⟨g, cap, cur2, by rw [hlen], hb, ?_, by omega, by unfold maxLen; omega, hs2, ?_⟩⟩, HOK.out⟩, h1, h2, h3, ?_, ?_⟩
        · rw [hW]; exact setRow_heap _ g cur1 cur2 _ _ (setRow_heap w g cur cur1 _ _ HH.out)
        · rw [hlen, hcells.out, htk]
        · rw [hW]; simp
        · intro k hk hn
          have hkg : k ≠ g := fun e => hn (by rw [e]; rfl)
          rw [hW, setRow_other _ g k _ hkg, setRow_other _ g k _ hkg]
      have mixed : Tryz.prog.follows Departure.mixedOrders = true := by kernel_rfl
      have HFIN := Lib.hid hfin
      have HC1 := Lib.hid (fun ty dc sc => hcp1 w.drew rfl ty dc sc)
      have HC2 := Lib.hid (fun ty dc => hcp2 (w.drew.setRow g cur1) rfl ty dc)
      clear hr hok hfin hcp1 hcp2 hs1 hs2 htk hcur1 hcur2 ht hs hcur hnew
      go_enter Tryz.func110, Tryz.ntmps110
      go_wp2_with (simp only [hov])
      go_region_law_o (refine step_copy_runI rfl _ _ 74 74 rfl (.slice (some ⟨g, (i + 1) * 2, none⟩) (ps.length - i) (cap - (i + 1))) (.slice (some ⟨g, i * 2, none⟩) (ps.length + 1 - i) (cap - i)) (by simp [Act.eval, Act.put]) (by simp [Act.eval, Act.put]) (HC1.out _ _ _) ?_)
      go_wp2_with (simp only [HC2.out])
      go_ret
      exact ⟨_, rfl, HFIN.out _ rfl rfl rfl rfl⟩
    · have hcn : cap = ps.length := by omega
      subst hcn
      have hik : i + (ps.length + 1 - i) = ps.length + 1 := by omega
      have hkk : (ps.length : Int) + 1 - (i : Int) = ((ps.length + 1 - i : Nat) : Int) := by omega
      have hold : (Builtin.firstCells i0.size i (.slice (some ⟨g, 0, none⟩) i ps.length)).run Tryz.prog w.drew = .ok (xs.take (i * 2)).toArray w.drew := by
        rw [hz1]
        exact run_firstCells_some w.drew 2 i ⟨g, 0, none⟩ i ps.length (xs.take (i * 2)) (by rw [List.length_take]; omega) (fun j u hj => by
          rw [Addr.add_lit, Nat.zero_add]
          rw [List.getElem?_take] at hj
          split at hj
          · exact hcur j u hj
          · cases hj)
      obtain ⟨G, hG⟩ : ∃ G, G = grownCap w (ps.length + 1) ps.length 83 := ⟨_, rfl⟩
      obtain ⟨ROW, hROW⟩ : ∃ R : Array Value, R = (xs.take (i * 2)).toArray ++ Builtin.zeroCells (Value.agg #[.string ⟨#[]⟩, .string ⟨#[]⟩]).cells (ps.length + 1 - i) ++ Builtin.zeroCells (Value.agg #[.string ⟨#[]⟩, .string ⟨#[]⟩]).cells (G - (ps.length + 1)) := ⟨_, rfl⟩
      have hrz : ∀ ty, (Builtin.append_ #[74, 3] ty #[.slice (some ⟨g, 0, none⟩) i ps.length, .int .i64 ((ps.length : Int) + 1 - (i : Int))]).run Tryz.prog w =
          .ok (.slice (some ⟨w.heap.size, 0, none⟩) (ps.length + 1) G) (w.drew.alloc (.cells ROW 83)) := fun ty => by
        have h := Lib.run_append_grow_zeros w 74 3 ty 83 i0 _ .i64 .i64 Tryz.underlying74 Tryz.underlying3 hi0 hz0 (some ⟨g, 0, none⟩) i ps.length (xs.take (i * 2)) hold (ps.length + 1 - i) (by omega) (by omega) (by omega) (by omega) (by rw [hz2]; omega) (by rw [hz2, hik]; exact growslice_fits (by omega) (by omega))
        rw [hik] at h
        rw [hkk, hROW, hG]
        exact h
      have hGn : ps.length + 1 ≤ G := by rw [hG]; exact grownCap_ge w _ _ _
      have hG63 : G ≤ 9223372036854775807 := by
        have := grownCap_le_maxLen w (ps.length + 1) ps.length 83 (by unfold maxLen; omega)
        rw [← hG] at this
        unfold maxLen at this
        omega
      have hRl : ROW.size = G * 2 := by
        rw [hROW]
        simp [Builtin.zeroCells, Value.cells]
        omega
      have hRt : ROW.toList.take (i * 2) = xs.take (i * 2) := by
        rw [hROW]
        simp only [Array.toList_append, List.append_assoc]
        rw [List.take_append_of_le_length (by simp; omega), List.take_of_length_le (by simp; omega)]
      have hsc := Lib.hid (grow_cells ROW.toList [Value.string p.name, Value.string p.value] xs (i * 2) (ps.length * 2) rfl hRt hxl (by simp; omega) (by omega))
      clear hROW hold hik hG
      obtain ⟨row1, hrow1⟩ : ∃ x : Array Value, x = (ROW.toList.take (i * 2) ++ [Value.string p.name, Value.string p.value] ++ ROW.toList.drop (i * 2 + 2)).toArray := ⟨_, rfl⟩
      obtain ⟨row2, hrow2⟩ : ∃ x : Array Value, x = (row1.toList.take (i * 2 + 2) ++ xs.drop (i * 2) ++ row1.toList.drop (i * 2 + 2 + (xs.drop (i * 2)).length)).toArray := ⟨_, rfl⟩
      have hs1 : row1.size = G * 2 := by rw [hrow1]; simp; omega
      have hs2 : row2.size = G * 2 := by rw [hrow2]; simp; omega
      have htk : row2.toList.take ((ps.length + 1) * 2) = xs.take (i * 2) ++ [.string p.name, .string p.value] ++ xs.drop (i * 2) := by
        rw [hrow2, hrow1, show (ps.length + 1) * 2 = ps.length * 2 + 2 from by omega]; exact hsc.out
      have hgl2 : g < w.heap.size := hgl
      have hA : ∀ W : World, W.heap = (w.alloc (.cells ROW 83)).heap → W.heap[w.heap.size]? = some (.cells ROW 83 (0, 0)) := fun W hW => by rw [hW]; exact heap_alloc_new w _
      have hcpA : ∀ (W : World), W.heap = (w.alloc (.cells ROW 83)).heap → ∀ ty dc, (Builtin.copy_ #[74, 74] ty #[.slice (some ⟨w.heap.size, i * 2, none⟩) (ps.length + 1 - i) dc, .slice (some ⟨N, 0, none⟩) 1 1]).run Tryz.prog W = .ok (goInt 1) (W.setRow w.heap.size row1) := fun W hW ty dc => by
        rw [hrow1]
        exact run_copy_rowN W _ _ ty 83 2 w.heap.size (i * 2) (ps.length + 1 - i) dc ⟨N, 0, none⟩ 1 1 ROW 83 [.string p.name, .string p.value] Tryz.underlying74 hsz (hA W hW) 1 hmin3 rfl
          (fun j u hj => by
            rw [World.cell?_of_block (w := w) (by rw [hW, Addr.add_lit]; exact heap_alloc_old w _ hbw)]
            exact hnew j u hj) (by simp; omega) hone
      have hcpB : ∀ (W : World), W.heap = ((w.alloc (.cells ROW 83)).setRow w.heap.size row1).heap → ∀ ty dc sc, (Builtin.copy_ #[74, 74] ty #[.slice (some ⟨w.heap.size, (i + 1) * 2, none⟩) (ps.length - i) dc, .slice (some ⟨g, i * 2, none⟩) (ps.length - i) sc]).run Tryz.prog W = .ok (goInt ((ps.length - i : Nat) : Int)) (W.setRow w.heap.size row2) := fun W hW ty dc sc => by
        rw [hrow2, show i * 2 + 2 = (i + 1) * 2 from by omega]
        exact run_copy_rowN W _ _ ty 83 2 w.heap.size ((i + 1) * 2) (ps.length - i) dc ⟨g, i * 2, none⟩ (ps.length - i) sc row1 83 (xs.drop (i * 2)) Tryz.underlying74 hsz (by rw [hW]; exact setRow_heap _ _ ROW row1 _ _ (hA _ rfl)) (ps.length - i) hmin2 hdl
          (fun j u hj => by
            rw [Addr.add_lit, World.cell?_of_block (w := w) (by rw [hW]; exact (setRow_other _ _ g row1 (by omega)).trans (heap_alloc_old w _ hgl2))]
            exact hcur _ u (by rwa [List.getElem?_drop] at hj)) (by omega) (fun u hu => hX1 u (List.mem_of_mem_drop hu))
      have hfin : ∀ (W : World), W.heap = (((w.alloc (.cells ROW 83)).setRow w.heap.size row1).setRow w.heap.size row2).heap → W.os = w.os → W.tape = w.tape → W.output = w.output → PropRow W base (.slice (some ⟨w.heap.size, 0, none⟩) (ps.length + 1) G) (insP ps i p) ∧ Keeps (fun b => (Value.slice (some ⟨g, 0, none⟩) ps.length ps.length).ownBlock = some b) w W := fun W hW h1 h2 h3 => by
        refine ⟨⟨⟨by rw [hcells.out, hlen]; simp [hxl]; omega, .inr ⟨w.heap.size, G, row2, by rw [hlen], hbase, ?_, by omega, by unfold maxLen; omega, hs2, ?_⟩⟩, HOK.out⟩, h1, h2, h3, ?_, ?_⟩
        · rw [hW]; exact setRow_heap _ _ row1 row2 _ _ (setRow_heap _ _ ROW row1 _ _ (hA _ rfl))
        · rw [hlen, hcells.out, htk]
        · rw [hW]; simp
        · intro k hk hn
          rw [hW, setRow_other _ _ k _ (by omega), setRow_other _ _ k _ (by omega)]
          exact heap_alloc_old w _ hk
      have mixed : Tryz.prog.follows Departure.mixedOrders = true := by kernel_rfl
      have HFIN := Lib.hid hfin
      have HRZ := Lib.hid hrz
      have HCA := Lib.hid (fun ty dc => hcpA ((w.alloc (.cells ROW 83)).drew) rfl ty dc)
      have HCB := Lib.hid (fun ty dc sc => hcpB (((w.alloc (.cells ROW 83)).drew.setRow w.heap.size row1).drew) rfl ty dc sc)
      have hGi : ¬ (G = i) := by omega
      have hGim : ¬ (G = i + 1) := by omega
      have hci : ¬ (ps.length = i) := by omega
      have hb1 : (0 : Int) ≤ (i : Int) + 1 := by omega
      have htn : ((i : Int) + 1).toNat = i + 1 := by omega
      have hb3 : (i : Int) ≤ (ps.length : Int) := by omega
      clear hr hok hfin hcpA hcpB hrz hs1 hs2 htk hrow1 hrow2 ht hs hcur hnew hA hsc hRl hRt hkk
      go_enter Tryz.func110, Tryz.ntmps110
      go_wp2_with (first
        | (at_builtin; refine Lib.wpList_append_run _ rfl _ _ _ _ rfl _ _ rfl rfl _ _ (HRZ.out _) ?_)
        | (simp only [HCA.out])
        | (simp only [HCB.out]))
      go_region_law_o (refine step_copy_runI rfl _ _ 74 74 rfl (.slice (some ⟨w.heap.size, (i + 1) * 2, none⟩) (ps.length - i) (G - (i + 1))) (.slice (some ⟨g, i * 2, none⟩) (ps.length - i) (ps.length - i)) (by simp [Act.eval, Act.put]) (by simp [Act.eval, Act.put]) (HCB.out _ _ _) ?_)
      go_wp2_with fail
      go_ret
      exact ⟨_, rfl, HFIN.out _ rfl rfl rfl rfl⟩
end Go.Proofs.YtjfkjnakmmkkiaaGreat
