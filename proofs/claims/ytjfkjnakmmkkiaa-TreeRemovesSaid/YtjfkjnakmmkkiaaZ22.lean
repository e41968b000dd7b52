/- Contracts of package tree: region 2 of changed (printed by gchg.py). | Contracts of package tree: changed, and the closure of Set. | Some of a valid tree's nodes, closed under parents, are a valid tree again (plain; for Remove). | What Remove keeps, in plain Lean. | Contracts of package tree: Remove. | The plain law of TreeRemoves: paths of a valid tree, and where they are found behind Remove. -/
import Derived.Test.YtjfkjnakmmkkiaaZ19
import Derived.Test.YtjfkjnakmmkkiaaZ21
import Derived.Test.YtjfkjnakmmkkiaaZ1
import Derived.Deep.LoopGhost
import Derived.Test.YtjfkjnakmmkkiaaZ14

namespace Go.Proofs.Ytjfkjnakmmkkiaa
open Go.RowKit

noncomputable def chgOps (n : Nat) : Array Oper := (regOps (Try.f67.body.getD .skip) n).getD #[]
theorem chg2 : inRow2 .any (chgOps 2) = true := by kernel_rfl
theorem chg2a : apartB (chgOps 2) = true := by kernel_rfl
theorem chg2n : (chgOps 2).size = 14 := by kernel_rfl
def ChgS (Z gT n cap : Nat) (pv : Value) (W w : World) : Prop := Holds w Z #[.slice (some ⟨gT, 0, none⟩) n cap] 27 ∧ Keeps (fun b => pv.ownBlock = some b ∨ b = gT) W w
def ChgX (pv : Value) (W : World) (l : Array Bool) (w : World) : Prop :=
  (l.getD 10 false = false → Keeps (fun _ => False) W w) ∧ (l.getD 13 false = false → Keeps (fun b => pv.ownBlock = some b) W w)
theorem ChgX.keep {pv : Value} {W w w' : World} {l : Array Bool} (h : ChgX pv W l w) (i : Nat) (h1 : Keeps (fun _ => False) W w → Keeps (fun _ => False) W w') (h2 : Keeps (fun b => pv.ownBlock = some b) W w → Keeps (fun b => pv.ownBlock = some b) W w') : ChgX pv W (l.setIfInBounds i true) w' :=
  ⟨fun e => h1 (h.1 (listed_set e)), fun e => h2 (h.2 (listed_set e))⟩
def ChgF (base Z gT n cap at_ fn : Nat) (caps : Array Value) (pv : Value) (ps2 : List PropT) (T2 : List NodeT) (j : Nat) : Value → World → Prop := match j with
  | 0 => fun u _ => u = .pointer (some ⟨Z, 0, none⟩)
  | 1 => fun u _ => u = .slice (some ⟨gT, 0, none⟩) n cap
  | 2 => fun u _ => u = .int .i64 at_
  | 3 => fun u _ => u = .func (.func fn) #[] caps
  | 4 => fun u _ => u = .pointer (some ⟨Z, 0, none⟩)
  | 5 => fun u _ => u = .slice (some ⟨gT, 0, none⟩) n cap
  | 6 => fun u _ => u = .int .i64 at_
  | 7 => fun u _ => u = .pointer (some ⟨gT, at_ * 3, none⟩)
  | 8 => fun u _ => u = .pointer (some ⟨gT, at_ * 3 + 2, none⟩)
  | 9 => fun u _ => u = pv
  | 10 => fun u w => PropRow w base u ps2
  | 11 => fun u _ => u = .pointer (some ⟨gT, at_ * 3, none⟩)
  | 12 => fun u _ => u = .pointer (some ⟨gT, at_ * 3 + 2, none⟩)
  | 13 => fun _ w => TreeRow w base (.slice (some ⟨gT, 0, none⟩) n cap) T2
  | _ => fun _ _ => True
section
variable {base Z gT n cap at_ fn : Nat} {caps : Array Value} {pv : Value} {ps2 : List PropT} {T2 : List NodeT}
theorem ChgS.call {W w w' : World} (h : ChgS Z gT n cap pv W w) (hZ : pv.ownBlock ≠ some Z) (k : Keeps (fun b => pv.ownBlock = some b) w w') : ChgS Z gT n cap pv W w' := ⟨h.1.keeps k hZ, h.2.trans k (fun _ _ e => Or.inl e)⟩
theorem ChgS.put {W w : World} (h : ChgS Z gT n cap pv W w) (hZ : Z ≠ gT) (v : Value) : ChgS Z gT n cap pv W (w.setCell ⟨gT, at_ * 3 + 2, none⟩ v) :=
  ⟨h.1.other _ _ hZ, h.2.trans ((Keeps.refl (fun b => pv.ownBlock = some b ∨ b = gT) w).setCell (p := ⟨gT, at_ * 3 + 2, none⟩) (Or.inr (Or.inr rfl)) v) (fun _ _ e => e)⟩
theorem ChgF.call {w w' : World} {j : Nat} {u : Value} (h : ChgF base Z gT n cap at_ fn caps pv ps2 T2 j u w) (h10 : j ≠ 10) (h13 : j ≠ 13) : ChgF base Z gT n cap at_ fn caps pv ps2 T2 j u w' := by
  unfold ChgF at *
  split at h
  all_goals first
    | exact absurd rfl h10
    | exact absurd rfl h13
    | exact h
theorem ChgF.put {w w' : World} {j : Nat} {u : Value} (h : ChgF base Z gT n cap at_ fn caps pv ps2 T2 j u w) (h13 : j ≠ 13) (h10 : j ≠ 10) : ChgF base Z gT n cap at_ fn caps pv ps2 T2 j u w' := h.call h10 h13
end

set_option maxHeartbeats 4000000 in
set_option maxRecDepth 100000 in
theorem chg_region2 {Q : Exit → Act → World → Prop} (base Z gT n cap at_ fn : Nat) (caps : Array Value) (pv : Value) (ps2 : List PropT) (T2 : List NodeT) (W w : World) (A : Act) (hsz : A.tmps.size = 29) (hat : at_ < n) (hZp : pv.ownBlock ≠ some Z) (hZg : Z ≠ gT) (hpg : pv.ownBlock ≠ some gT) (hnd : ∃ cs, Holds W gT cs 42)
    (a1 : A.tmps.getD 1 undef = .int .i64 at_) (a2 : A.tmps.getD 2 undef = .func (.func fn) #[] caps) (a7 : A.tmps.getD 7 undef = .pointer (some ⟨Z, 0, none⟩))
    (hcell : ∀ wx, Keeps (fun b => pv.ownBlock = some b) W wx → wx.cell? ⟨gT, at_ * 3 + 2, none⟩ = some pv ∧ wx.frozen? ⟨gT, at_ * 3 + 2, none⟩ = false)
    (heg : ∀ args w, (callFunc fn args).run Try.prog w = .ok (.enter fn args) w) (hcl : Hid (∀ wx, Keeps (fun _ => False) W wx → Calls Try.prog fn (#[pv] ++ caps) wx fun e w' => ∃ rv, e = .returned rv ∧ PropRow w' base rv ps2 ∧ Keeps (fun b => pv.ownBlock = some b) wx w'))
    (hput : ∀ wx rv, PropRow wx base rv ps2 → Keeps (fun b => pv.ownBlock = some b) W wx → TreeRow (wx.setCell ⟨gT, at_ * 3 + 2, none⟩ rv) base (.slice (some ⟨gT, 0, none⟩) n cap) T2)
    (hS : ChgS Z gT n cap pv W w) (hX : Keeps (fun _ => False) W w)
    (hQ : ∀ c w', SameBut (chgOps 2) A c → ChgS Z gT n cap pv W w' → TreeRow w' base (.slice (some ⟨gT, 0, none⟩) n cap) T2 → Q .normal c w') :
    wpAny Try.prog .any (chgOps 2) Q (chgOps 2).size (Array.replicate (chgOps 2).size false) A w := by
  refine wpAny_inv2 (fun l c wx => RInv (chgOps 2) A (ChgF base Z gT n cap at_ fn caps pv ps2 T2) (ChgS Z gT n cap pv W) l c wx ∧ ChgX pv W l wx) chg2 ?hend ?hstep _ _ _ _ (by simp) (by simp) ⟨RInv.start hS, fun _ => hX, fun _ => hX.mono (fun _ _ e => e.elim)⟩
  case hend =>
    intro l c wx hI hl
    have h1 : TreeRow wx base (.slice (some ⟨gT, 0, none⟩) n cap) T2 := hI.1.2.2.2 13 (by rw [chg2n]; decide) (hl 13 (by rw [chg2n]; decide))
    exact hQ c wx hI.1.1 hI.1.2.1 h1
  clear hX
  intro l c wx hI i' op ho hl hall K' hK'
  have hi13 : i' < 14 := by rw [← chg2n]; exact (Array.getElem?_eq_some_iff.1 ho).1
  simp only [chgOps, regOps, Try.f67, Option.getD_some, reduceIte, Nat.reduceEqDiff] at ho
  have hS := hI.1.2.1
  have hii : (at_ : Int) < n := by omega
  have hii0 : (0 : Int) ≤ at_ := by omega
  have s1 := (hI.1.slot 1 (by kernel_rfl)).trans a1
  have s2 := (hI.1.slot 2 (by kernel_rfl)).trans a2
  have s7 := (hI.1.slot 7 (by kernel_rfl)).trans a7
  simp only [Array.getD_eq_getD_getElem?] at s1 s2 s7
  have hic : i' = 0 ∨ i' = 1 ∨ i' = 2 ∨ i' = 3 ∨ i' = 4 ∨ i' = 5 ∨ i' = 6 ∨ i' = 7 ∨ i' = 8 ∨ i' = 9 ∨ i' = 10 ∨ i' = 11 ∨ i' = 12 ∨ i' = 13 := by omega
  rcases hic with rfl | rfl | rfl | rfl | rfl | rfl | rfl | rfl | rfl | rfl | rfl | rfl | rfl | rfl
  all_goals cases ho
  · go_simp
    exact hK' _ _ ⟨hI.1.stepL chg2a 0 15 rfl (by rw [hsz]; decide) _ _ rfl hall hS (fun _ _ _ h => h) rfl, hI.2.keep 0 (fun h => h) (fun h => h)⟩
  · have e0 : c.tmps.getD 15 undef = .pointer (some ⟨Z, 0, none⟩) := hI.1.fact 0 15 rfl (listed hall 0 (by kernel_rfl))
    simp only [Array.getD_eq_getD_getElem?] at e0
    have hX := hS.1.cell 0
    go_simp
    exact hK' _ _ ⟨hI.1.stepL chg2a 1 16 rfl (by rw [hsz]; decide) _ _ rfl hall hS (fun _ _ _ h => h) rfl, hI.2.keep 1 (fun h => h) (fun h => h)⟩
  · go_simp
    exact hK' _ _ ⟨hI.1.stepL chg2a 2 17 rfl (by rw [hsz]; decide) _ _ rfl hall hS (fun _ _ _ h => h) rfl, hI.2.keep 2 (fun h => h) (fun h => h)⟩
  · go_simp
    exact hK' _ _ ⟨hI.1.stepL chg2a 3 18 rfl (by rw [hsz]; decide) _ _ rfl hall hS (fun _ _ _ h => h) rfl, hI.2.keep 3 (fun h => h) (fun h => h)⟩
  · go_simp
    exact hK' _ _ ⟨hI.1.stepL chg2a 4 19 rfl (by rw [hsz]; decide) _ _ rfl hall hS (fun _ _ _ h => h) rfl, hI.2.keep 4 (fun h => h) (fun h => h)⟩
  · have e4 : c.tmps.getD 19 undef = .pointer (some ⟨Z, 0, none⟩) := hI.1.fact 4 19 rfl (listed hall 4 (by kernel_rfl))
    simp only [Array.getD_eq_getD_getElem?] at e4
    have hX := hS.1.cell 0
    go_simp
    exact hK' _ _ ⟨hI.1.stepL chg2a 5 20 rfl (by rw [hsz]; decide) _ _ rfl hall hS (fun _ _ _ h => h) rfl, hI.2.keep 5 (fun h => h) (fun h => h)⟩
  · go_simp
    exact hK' _ _ ⟨hI.1.stepL chg2a 6 21 rfl (by rw [hsz]; decide) _ _ rfl hall hS (fun _ _ _ h => h) rfl, hI.2.keep 6 (fun h => h) (fun h => h)⟩
  · have e5 : c.tmps.getD 20 undef = .slice (some ⟨gT, 0, none⟩) n cap := hI.1.fact 5 20 rfl (listed hall 5 (by kernel_rfl))
    simp only [Array.getD_eq_getD_getElem?] at e5
    have e6 : c.tmps.getD 21 undef = .int .i64 at_ := hI.1.fact 6 21 rfl (listed hall 6 (by kernel_rfl))
    simp only [Array.getD_eq_getD_getElem?] at e6
    go_simp
    exact hK' _ _ ⟨hI.1.stepL chg2a 7 22 rfl (by rw [hsz]; decide) _ _ rfl hall hS (fun _ _ _ h => h) rfl, hI.2.keep 7 (fun h => h) (fun h => h)⟩
  · have e7 : c.tmps.getD 22 undef = .pointer (some ⟨gT, at_ * 3, none⟩) := hI.1.fact 7 22 rfl (listed hall 7 (by kernel_rfl))
    simp only [Array.getD_eq_getD_getElem?] at e7
    go_simp
    exact hK' _ _ ⟨hI.1.stepL chg2a 8 23 rfl (by rw [hsz]; decide) _ _ rfl hall hS (fun _ _ _ h => h) rfl, hI.2.keep 8 (fun h => h) (fun h => h)⟩
  · have e8 : c.tmps.getD 23 undef = .pointer (some ⟨gT, at_ * 3 + 2, none⟩) := hI.1.fact 8 23 rfl (listed hall 8 (by kernel_rfl))
    simp only [Array.getD_eq_getD_getElem?] at e8
    have u10 := hI.1.2.2.1.2.unlisted hl (j := 10) (by kernel_rfl)
    have hX := (hcell wx ((hI.2.1 u10).mono (fun _ _ e => e.elim))).1
    go_simp
    exact hK' _ _ ⟨hI.1.stepL chg2a 9 24 rfl (by rw [hsz]; decide) _ _ rfl hall hS (fun _ _ _ h => h) rfl, hI.2.keep 9 (fun h => h) (fun h => h)⟩
  · have e3 : c.tmps.getD 18 undef = .func (.func fn) #[] caps := hI.1.fact 3 18 rfl (listed hall 3 (by kernel_rfl))
    simp only [Array.getD_eq_getD_getElem?] at e3
    have e9 : c.tmps.getD 24 undef = pv := hI.1.fact 9 24 rfl (listed hall 9 (by kernel_rfl))
    simp only [Array.getD_eq_getD_getElem?] at e9
    have u13 := hI.1.2.2.1.2.unlisted hl (j := 13) (by kernel_rfl)
    have kq := hI.2.1 hl
    go_simp
    refine (hcl.out wx kq).mono ?_
    rintro e w2 ⟨rv, rfl, hr, k2⟩
    go_simp
    exact hK' _ _ ⟨hI.1.stepL chg2a 10 25 rfl (by rw [hsz]; decide) _ _ rfl hall (hS.call hZp k2) (fun j hj _ h => h.call (yes_no hj hl) (yes_no hj u13)) hr, ⟨(fun h => absurd rfl (listed_at h (by rw [hI.1.2.2.1.1, chg2n]; decide))), fun h => (kq.mono (fun _ _ e => e.elim)).trans k2 (fun _ _ e => e)⟩⟩
  · have e1 : c.tmps.getD 16 undef = .slice (some ⟨gT, 0, none⟩) n cap := hI.1.fact 1 16 rfl (listed hall 1 (by kernel_rfl))
    simp only [Array.getD_eq_getD_getElem?] at e1
    have e2 : c.tmps.getD 17 undef = .int .i64 at_ := hI.1.fact 2 17 rfl (listed hall 2 (by kernel_rfl))
    simp only [Array.getD_eq_getD_getElem?] at e2
    go_simp
    exact hK' _ _ ⟨hI.1.stepL chg2a 11 26 rfl (by rw [hsz]; decide) _ _ rfl hall hS (fun _ _ _ h => h) rfl, hI.2.keep 11 (fun h => h) (fun h => h)⟩
  · have e11 : c.tmps.getD 26 undef = .pointer (some ⟨gT, at_ * 3, none⟩) := hI.1.fact 11 26 rfl (listed hall 11 (by kernel_rfl))
    simp only [Array.getD_eq_getD_getElem?] at e11
    go_simp
    exact hK' _ _ ⟨hI.1.stepL chg2a 12 27 rfl (by rw [hsz]; decide) _ _ rfl hall hS (fun _ _ _ h => h) rfl, hI.2.keep 12 (fun h => h) (fun h => h)⟩
  · have e12 : c.tmps.getD 27 undef = .pointer (some ⟨gT, at_ * 3 + 2, none⟩) := hI.1.fact 12 27 rfl (listed hall 12 (by kernel_rfl))
    simp only [Array.getD_eq_getD_getElem?] at e12
    have hr : PropRow wx base (c.tmps.getD 25 undef) ps2 := hI.1.fact 10 25 rfl (listed hall 10 (by kernel_rfl))
    generalize hc25 : c.tmps.getD 25 undef = rv at hr
    obtain ⟨a2, c2, hrv⟩ := row_slice hr.1
    subst hrv
    simp only [Array.getD_eq_getD_getElem?] at hc25
    have kq := hI.2.2 hl
    obtain ⟨n0, n1⟩ := hcell wx kq
    obtain ⟨ncs, hH⟩ := hnd
    have hH0 := hH.keeps kq hpg
    go_simp
    exact hK' _ _ ⟨hI.1.stepNL 13 rfl _ rfl hall (hS.put hZg _) (fun j hj _ h => by
      by_cases e : j = 10
      · subst e; exact PropRow.set h hH0 (by decide) _ _
      · exact h.put (yes_no hj hl) e) (hput wx _ hr kq), ⟨(fun h => absurd ((listed_set h).symm.trans (listed hall 10 (by kernel_rfl))) (by decide)), (fun h => absurd rfl (listed_at h (by rw [hI.1.2.2.1.1, chg2n]; decide)))⟩⟩
end Go.Proofs.Ytjfkjnakmmkkiaa

namespace Go.Proofs.Ytjfkjnakmmkkiaa
open Go.RowKit

theorem idx_range (n i : Nat) (h : i < n) : (List.range n).idxOf i = i := by
  induction n with
  | zero => omega
  | succ n ih =>
    rw [List.range_succ]
    by_cases e : i < n
    · rw [List.idxOf_append, if_pos (by simpa using e), ih e]
    · have : i = n := by omega
      subst this
      rw [List.idxOf_append, if_neg (by simp)]
      simp
theorem sorted_self {T : List NodeT} (hc : checkT T = 0) (h0 : 0 < T.length) : sortedT T = T := by
  have hp := check_parts hc
  have hw := walked_ord hp.2.1 h0
  rw [hp.2.2.1] at hw
  have ho : ordT T = List.range T.length := by
    have := hw.symm
    rw [Bool.and_eq_true] at this
    exact of_decide_eq_true this.1
  have hpar := par_of_named hp.2.1
  have hr := named_root hp.2.1 h0
  unfold sortedT
  rw [ho]
  apply List.ext_getElem
  · simp
  · intro i h1 h2
    have hi : i < T.length := h2
    rw [List.getElem_map, List.getElem_range]
    unfold moveT
    rw [nameOf_at hi, propsOf_at hi]
    by_cases e : i = 0
    · subst e
      rw [parOf_at hi]; rfl
    · have e0 : 0 < i := by omega
      obtain ⟨hlt, hpe⟩ := parN_lt hpar e0 hi
      rw [if_neg e, ho, idx_range _ _ (by omega), hpe, parOf_at hi]
theorem propCells_setv : ∀ (ps : List PropT) (k : Nat) (hk : k < ps.length) (x : ByteArray), propCells (ps.set k ⟨ps[k].name, x⟩) = (propCells ps).set (k * 2 + 1) (.string x)
  | p :: ps, 0, _, _ => rfl
  | p :: ps, k + 1, hk, x => by
    have := propCells_setv ps k (by simpa using hk) x
    rw [show (k + 1) * 2 + 1 = k * 2 + 1 + 1 + 1 from by omega]
    simp only [List.set_cons_succ, propCells, List.getElem_cons_succ]
    rw [this]
/-- The closure of Set. -/
theorem tree_Set1 (base bo bk bn bv : Nat) (v : Value) (ps : List PropT) (name value : ByteArray) (w : World) (hr : PropRow w base v ps) (hl : ps.length ≤ 1000) (hp : PropOk ⟨name, value⟩) (hbase : base ≤ w.heap.size)
    (ho : Holds w bo #[.bool (hasT ps name)] 4) (hk : Holds w bk #[.int .i64 (lowT ps name)] 3) (hn : Holds w bn #[.string name] 9) (hv : Holds w bv #[.string value] 9) :
    Calls Try.prog 68 #[v, .pointer (some ⟨bo, 0, none⟩), .pointer (some ⟨bk, 0, none⟩), .pointer (some ⟨bn, 0, none⟩), .pointer (some ⟨bv, 0, none⟩)] w fun e w' => ∃ v', e = .returned v' ∧ PropRow w' base v' (putT ps ⟨name, value⟩) ∧ Keeps (fun b => v.ownBlock = some b) w w' := by
  have x0 := ho.cell 0
  have x1 := hk.cell 0
  have x2 := hn.cell 0
  have x3 := hv.cell 0
  have hle := low_le ps name
  cases hh : hasT ps name with
  | false =>
    rw [hh] at x0
    have hpe := Lib.hid (show putT ps ⟨name, value⟩ = insP ps (lowT ps name) ⟨name, value⟩ from by unfold putT insP restT; simp only [hh]; rfl)
    have hb1 : Below w.heap.size w (w.alloc (.cells #[.string name, .string value] 48)) := (Below.refl _ _).alloc (Nat.le_refl _) _
    have hins := Lib.hid (props_Insert base w.heap.size v ps (lowT ps name) ⟨name, value⟩ _ (hr.new hb1) hle hl (Holds.new w #[.string name, .string value] 48) (fun e => Nat.lt_irrefl _ (hr.1.lt _ e).2) hp (by simp; omega))
    have HR := Lib.hid hr
    obtain ⟨va, vc, rfl⟩ := row_slice hr.1
    clear hr ho hk hn hv hh
    generalize lowT ps name = k at *
    go_enter Try.func68, Try.ntmps68
    go_wp2_with fail
    refine hins.out.mono ?_
    rintro e w2 ⟨v2, rfl, hr2, k2⟩
    go_wp2_with fail
    go_ret
    exact ⟨_, rfl, by rw [hpe.out]; exact hr2, (Keeps.of_fresh hb1 (fun b => (Value.slice va ps.length vc).ownBlock = some b)).trans k2 (fun _ _ e => e)⟩
  | true =>
    rw [hh] at x0
    have hlt : lowT ps name < ps.length := by
      by_cases e : lowT ps name < ps.length
      · exact e
      · rw [has_none (by omega)] at hh; cases hh
    have hnm : ps[lowT ps name].name = name := by
      rw [has_at hlt] at hh
      exact (eqS_iff _ _).1 hh
    have hpe : putT ps ⟨name, value⟩ = ps.set (lowT ps name) ⟨ps[lowT ps name].name, value⟩ := by
      unfold putT restT
      simp only [hh, if_true]
      rw [List.set_eq_take_append_cons_drop, if_pos hlt, hnm]
    obtain ⟨g, cap', ev, -, hg⟩ := hr.1.form (by omega)
    subst ev
    obtain ⟨_, cur, hH⟩ := owned_holds hr.1 (g := g) rfl
    have hlen := propCells_len ps
    have c0 : w.cell? ⟨g, lowT ps name * 2 + 1, none⟩ = some ((propCells ps)[lowT ps name * 2 + 1]'(by omega)) := (hr.1.cellAt _ (by omega)).trans (List.getElem?_eq_getElem (by omega))
    have cf := hH.free (lowT ps name * 2 + 1)
    obtain ⟨s1, s2⟩ := hr.1.stored (lowT ps name * 2 + 1) (.string value)
    have HF := Lib.hid (show PropRow (w.setCell ⟨g, lowT ps name * 2 + 1, none⟩ (.string value)) base (.slice (some ⟨g, 0, none⟩) ps.length cap') (putT ps ⟨name, value⟩) from by
      rw [hpe]
      refine ⟨?_, fun q hq => ?_⟩
      · rw [propCells_setv ps _ hlt, List.length_set]; exact s1
      · rcases List.mem_or_eq_of_mem_set hq with h | h
        · exact hr.2 q h
        · rw [h, hnm]; exact hp)
    have hk2 : ((lowT ps name : Nat) : Int) < (ps.length : Int) := by omega
    have hK := Lib.hid (show Keeps (fun b => (Value.slice (some ⟨g, 0, none⟩) ps.length cap').ownBlock = some b) w (w.setCell ⟨g, lowT ps name * 2 + 1, none⟩ (.string value)) from (Keeps.refl (fun b => (Value.slice (some ⟨g, 0, none⟩) ps.length cap').ownBlock = some b) w).setCell (p := ⟨g, lowT ps name * 2 + 1, none⟩) (Or.inr (show some g = some g from rfl)) _)
    generalize (propCells ps)[lowT ps name * 2 + 1]'(by omega) = ov at c0
    clear hr ho hk hn hv hh hpe s1 s2 hH hnm hlen
    generalize putT ps ⟨name, value⟩ = qs at HF ⊢
    generalize lowT ps name = k at *
    go_enter Try.func68, Try.ntmps68
    go_wp2_with fail
    go_ret
    exact ⟨_, rfl, HF.out, hK.out⟩

set_option maxRecDepth 100000 in
set_option maxHeartbeats 4000000 in
theorem tree_changed (R : Nat → Prop) (v : Value) (T : List NodeT) (at_ fn : Nat) (caps : Array Value) (qs : List PropT) (w : World) (hT : NodesIn R w v T) (hc : checkT T = 0) (hat : at_ < T.length) (heg : ∀ args w, (callFunc fn args).run Try.prog w = .ok (.enter fn args) w)
    (hcl : ∀ base u wx, Below w.heap.size w wx → w.heap.size ≤ base → base ≤ wx.heap.size → PropRow wx base u T[at_].props → Calls Try.prog fn (#[u] ++ caps) wx fun e w' => ∃ v', e = .returned v' ∧ PropRow w' base v' qs ∧ Keeps (fun b => u.ownBlock = some b) wx w') :
    Calls Try.prog 67 #[.agg #[v], .int .i64 at_, .func (.func fn) #[] caps] w fun e w' => ∃ v', e = .returned (.agg #[v']) ∧ TreeRow w' w.heap.size v' (T.set at_ ⟨T[at_].parent, T[at_].name, qs⟩) ∧ Below w.heap.size w w' := by
  obtain ⟨a, cap, rfl, hc1, hc2⟩ := hT.shape
  have h0 : 0 < T.length := by omega
  have hl2 := (limits_len (check_limits hc)).2
  have hp := check_parts hc
  have hS : Shape T := ⟨h0, par_of_named hp.2.1, named_root hp.2.1 h0⟩
  have hwt := Lib.hid (fun wx hx => walk_TreeS R (.slice a T.length cap) T wx hx hS (dis_check hc) (by omega) (check_props hc))
  have hss := sorted_self hc h0
  have HT := Lib.hid hT
  have HCL := Lib.hid hcl
  have hb0 : Below w.heap.size w ((w.alloc (.cells #[.slice a T.length cap] 27)).alloc (.cells #[.slice none 0 0] 27)) := ((Below.refl _ _).alloc (Nat.le_refl _) _).alloc (by simp) _
  have hRB := Holds.newAt (w := w.alloc (.cells #[.slice a T.length cap] 27)) (B := w.heap.size + 1) (by simp) #[.slice none 0 0] 27
  have hTB := (Holds.new w #[.slice a T.length cap] 27).alloc (.cells #[.slice none 0 0] 27)
  have hNN := HT.out.new hb0
  clear hT hcl hp hS hc
  go_enter Try.func67, Try.ntmps67
  go_wp2_with fail
  refine (hwt.out _ (by exact hNN)).mono ?_
  rintro e w1 ⟨tv, gP, l, rfl, hr, hgP, hPP, hll, -, hb1⟩
  rw [hss] at hr
  obtain ⟨gT, tc, rfl⟩ : ∃ gT tc, tv = .slice (some ⟨gT, 0, none⟩) T.length tc := by
    obtain ⟨_, _, g2, _⟩ := hr.row
    obtain ⟨g, c, e, _⟩ := g2.form h0
    exact ⟨g, c, e⟩
  have hgl1 : gT < w1.heap.size := tree_own_lt hr.row rfl
  have hbz : Below w1.heap.size w1 (w1.alloc (.cells #[.slice (some ⟨gT, 0, none⟩) T.length tc] 27)) := (Below.refl _ _).alloc (Nat.le_refl _) _
  have hr1 := hr.new hbz
  have hZ := Holds.new w1 #[.slice (some ⟨gT, 0, none⟩) T.length tc] 27
  obtain ⟨pv, p0, hpr, hpg, hgl, hcell, hput⟩ := hr1.put at_ hat
  have hnd : ∃ cs, Holds (w1.alloc (.cells #[.slice (some ⟨gT, 0, none⟩) T.length tc] 27)) gT cs 42 := (tree_own_holds hr1.row rfl).2
  have hZp : pv.ownBlock ≠ some w1.heap.size := fun e => owns_ne_holds hpr.1 hZ (by decide) e
  have hb2 : Below w.heap.size w w1 := hb0.trans (hb1.mono (by simp; omega))
  have hb3 := hb2.trans (hbz.mono hb2.size)
  have hRB1 := ((hRB.keeps (Keeps.of_fresh hb1 (fun _ => False)) (fun e => e)).keeps (Keeps.of_fresh hbz (fun _ => False)) (fun e => e))
  have hbl : w.heap.size ≤ ((w.alloc (.cells #[.slice a T.length cap] 27)).alloc (.cells #[.slice none 0 0] 27)).heap.size := by simp; omega
  have hbw : ((w.alloc (.cells #[.slice a T.length cap] 27)).alloc (.cells #[.slice none 0 0] 27)).heap.size ≤ w1.heap.size := hb1.size
  generalize ((w.alloc (.cells #[.slice a T.length cap] 27)).alloc (.cells #[.slice none 0 0] 27)).heap.size = b2 at *
  have hcl2 : Hid (∀ wx, Keeps (fun _ => False) (w1.alloc (.cells #[.slice (some ⟨gT, 0, none⟩) T.length tc] 27)) wx → Calls Try.prog fn (#[pv] ++ caps) wx fun e w' => ∃ rv, e = .returned rv ∧ PropRow w' b2 rv qs ∧ Keeps (fun b => pv.ownBlock = some b) wx w') :=
    Lib.hid (fun wx k => HCL.out b2 pv wx (hb3.trans (k.below hb3.size (fun _ _ e => e))) hbl (Nat.le_trans hbw (Nat.le_trans (by simp) k.size)) ⟨ownsRow_keeps hpr.1 k (fun _ _ e => e), hpr.2⟩)
  have hown : ∀ b, pv.ownBlock = some b → w.heap.size ≤ b ∧ ∃ cur, Holds (w1.alloc (.cells #[.slice (some ⟨gT, 0, none⟩) T.length tc] 27)) b cur 48 := fun b e => by
    obtain ⟨q1, q2⟩ := owned_holds hpr.1 e
    exact ⟨by omega, q2⟩
  have hgb : w.heap.size ≤ gT := by have := (tree_own_holds hr1.row (g := gT) rfl).1; omega
  have hZ1 : w1.heap.size ≠ gT := by omega
  have hRo : pv.ownBlock ≠ some (w.heap.size + 1) := fun e => by
    obtain ⟨_, cur, q⟩ := hown _ e
    exact holds_ne q hRB1 (by decide) rfl
  have hRg : w.heap.size + 1 ≠ gT := fun e => by
    obtain ⟨cs, q⟩ := hnd
    exact holds_ne hRB1 q (by decide) e
  clear hr hNN hPP hb0 hRB hTB HCL hll hr1 hb2 hpr hwt
  go_wp2_with fail
  generalize hWe : w1.alloc (.cells #[.slice (some ⟨gT, 0, none⟩) T.length tc] 27) = W at *
  refine wp_region_any (by kernel_rfl) ?_
  refine wpAny_ops (ops' := chgOps 2) (by kernel_rfl) ?_
  refine chg_region2 b2 w1.heap.size gT T.length tc at_ fn caps pv qs (T.set at_ ⟨T[at_].parent, T[at_].name, qs⟩) W _ _ rfl hat hZp hZ1 hpg hnd rfl rfl rfl hcell heg hcl2 (fun wx rv h k => hput wx rv qs h k) ⟨hZ, (Keeps.refl _ _).drew⟩ ((Keeps.refl _ _).drew) ?_
  intro c w2 hsb hS2 hT2
  obtain ⟨y15, y16, y17, y18, y19, y20, y21, y22, y23, y24, y25, y26, y27, hc⟩ := hsb.ex [15, 16, 17, 18, 19, 20, 21, 22, 23, 24, 25, 26, 27] (by kernel_rfl)
  subst hc
  simp only [List.setIfInBounds_toArray, List.set_cons_zero, List.set_cons_succ]
  have hk2 := hS2.2
  have hRB2 := hRB1.keeps hk2 (fun e => by rcases e with e | e; exact hRo e; exact hRg e)
  have hb4 : Below w.heap.size w w2 := hb3.trans (hk2.below hb3.size (fun i hi e => by
    rcases e with e | e
    · have := (hown i e).1; omega
    · omega))
  have z0 := hS2.1.cell 0
  have r0 := hRB2.cell 0
  have rf := hRB2.free 0
  have hfin := (hT2.base hbl).set hRB2 (by decide) (by decide) 0 (.slice (some ⟨gT, 0, none⟩) T.length tc)
  have q0 := (hRB2.set 0 (.slice (some ⟨gT, 0, none⟩) T.length tc)).cell 0
  have hb5 := hb4.setCell (p := ⟨w.heap.size + 1, 0, none⟩) (by simp) (.slice (some ⟨gT, 0, none⟩) T.length tc)
  have HF := Lib.hid (And.intro hfin hb5)
  clear hfin hb5 hS2 hT2 hk2 hRB2 hRB1 hZ hb3 hb4 hcl2 hcell hput hnd hown hsb HT
  go_wp2_with fail
  exact bodyPost_ret (v := .agg #[.slice (some ⟨gT, 0, none⟩) T.length tc]) (by simp [results, Try.results67, go_sem, q0]) rfl ⟨_, rfl, HF.out⟩
end Go.Proofs.Ytjfkjnakmmkkiaa

open Go
namespace Go.Proofs.Ytjfkjnakmmkkiaa

structure SubOk (L : List NodeT) (O : List Nat) : Prop where
  asc : O.Pairwise (· < ·)
  lt : ∀ k ∈ O, k < L.length
  zero : 0 ∈ O
  par : ∀ k ∈ O, 0 < k → parN L k ∈ O
def subN (L : List NodeT) (O : List Nat) (k : Nat) : NodeT := ⟨if k = 0 then parOf L 0 else ((O.idxOf (parN L k) : Nat) : Int), nameOf L k, propsOf L k⟩
def subT (L : List NodeT) (O : List Nat) : List NodeT := O.map (subN L O)
theorem asc_ge {O : List Nat} (h : O.Pairwise (· < ·)) : ∀ i (hi : i < O.length), i ≤ O[i] := by
  intro i
  induction i with
  | zero => intro _; omega
  | succ i ih =>
    intro hi
    have := ih (by omega)
    have h2 := (List.pairwise_iff_getElem.1 h) i (i + 1) (by omega) hi (by omega)
    omega
theorem asc_nodup {O : List Nat} (h : O.Pairwise (· < ·)) : O.Nodup := h.imp (fun hab e => by omega)
theorem asc_idx {O : List Nat} (h : O.Pairwise (· < ·)) {a b : Nat} (ha : a ∈ O) (hb : b ∈ O) (hab : a < b) : O.idxOf a < O.idxOf b := by
  obtain ⟨i, hi, rfl⟩ := List.getElem_of_mem ha
  obtain ⟨j, hj, rfl⟩ := List.getElem_of_mem hb
  rw [idx_at (asc_nodup h) i hi, idx_at (asc_nodup h) j hj]
  rcases Nat.lt_trichotomy i j with e | e | e
  · exact e
  · subst e; omega
  · have := (List.pairwise_iff_getElem.1 h) j i hj hi e; omega
theorem dep_mono1 (T : List NodeT) : ∀ (f : Nat) (u : Int), depF T f u ≤ depF T (f + 1) u := by
  intro f
  induction f with
  | zero => intro u; exact Nat.zero_le _
  | succ f ih =>
    intro u
    unfold depF
    split
    · exact Nat.add_le_add_right (ih _) 1
    · exact Nat.le_refl _
theorem dep_mono (T : List NodeT) (u : Int) (f g : Nat) (h : f ≤ g) : depF T f u ≤ depF T g u := by
  induction h with
  | refl => exact Nat.le_refl _
  | step _ ih => exact Nat.le_trans ih (dep_mono1 T _ u)
section
variable {L : List NodeT} {O : List Nat}
theorem SubOk.len (h : SubOk L O) : O.length ≤ L.length := by
  by_cases e : O.length ≤ L.length
  · exact e
  · have h1 := asc_ge h.asc (O.length - 1) (by omega)
    have h2 := h.lt _ (List.getElem_mem (show O.length - 1 < O.length by omega))
    omega
theorem SubOk.pos (h : SubOk L O) : 0 < O.length := List.length_pos_of_mem h.zero
theorem SubOk.first (h : SubOk L O) : O[0]'h.pos = 0 := by
  obtain ⟨j, hj, e⟩ := List.getElem_of_mem h.zero
  have h1 := asc_ge h.asc j hj
  have : j = 0 := by omega
  subst this; exact e
theorem sub_len : (subT L O).length = O.length := by unfold subT; simp
theorem sub_at (i : Nat) (hi : i < O.length) : (subT L O)[i]'(by rw [sub_len]; exact hi) = subN L O O[i] := by simp [subT]
/-- A kept node: its place, its name, its properties, and where its parent comes to lie. -/
theorem SubOk.facts (h : SubOk L O) (hP : Par L) (hr : parOf L 0 = -1) (i : Nat) (hi : i < O.length) : nameOf (subT L O) i = nameOf L O[i] ∧ propsOf (subT L O) i = propsOf L O[i] ∧ (i = 0 → O[i] = 0 ∧ parOf (subT L O) i = -1) ∧
    (0 < i → 0 < O[i] ∧ parOf (subT L O) i = ((O.idxOf (parN L O[i]) : Nat) : Int) ∧ O.idxOf (parN L O[i]) < i ∧ O[O.idxOf (parN L O[i])]? = some (parN L O[i])) := by
  have hs : i < (subT L O).length := by rw [sub_len]; exact hi
  have hol := h.lt _ (List.getElem_mem hi)
  refine ⟨by rw [nameOf_at hs, sub_at i hi]; rfl, by rw [propsOf_at hs, sub_at i hi]; rfl, fun e => ?_, fun e => ?_⟩
  · subst e
    have hf := h.first
    refine ⟨hf, ?_⟩
    rw [parOf_at hs, sub_at 0 hi, hf]
    show (if (0 : Nat) = 0 then parOf L 0 else ((O.idxOf (parN L 0) : Nat) : Int)) = -1
    rw [if_pos rfl, hr]
  · have hpos : 0 < O[i] := by have := asc_ge h.asc i hi; omega
    have hmem := h.par _ (List.getElem_mem hi) hpos
    have hlt := (parN_lt hP hpos hol).1
    have hidx := asc_idx h.asc hmem (List.getElem_mem hi) hlt
    rw [idx_at (asc_nodup h.asc) i hi] at hidx
    refine ⟨hpos, ?_, hidx, ?_⟩
    · rw [parOf_at hs, sub_at i hi]
      show (if O[i] = 0 then parOf L 0 else ((O.idxOf (parN L O[i]) : Nat) : Int)) = _
      rw [if_neg (by omega)]
    · rw [List.getElem?_eq_getElem (List.idxOf_lt_length_iff.2 hmem)]
      simp
theorem SubOk.shape (h : SubOk L O) (hP : Par L) (hr : parOf L 0 = -1) : Shape (subT L O) := by
  refine ⟨by rw [sub_len]; exact h.pos, fun i h0 hi => ?_, ?_⟩
  · rw [sub_len] at hi
    obtain ⟨_, _, _, f⟩ := h.facts hP hr i hi
    obtain ⟨_, f2, f3, _⟩ := f h0
    rw [f2]; omega
  · exact ((h.facts hP hr 0 h.pos).2.2.1 rfl).2
theorem SubOk.pc (h : SubOk L O) (hP : Par L) (hr : parOf L 0 = -1) : ∀ (n i : Nat) (_ : i ≤ n) (hi : i < O.length), pc (subT L O) i = (Go.Proofs.Ytjfkjnakmmkkiaa.pc L O[i]).map (fun c => (c.1, O.idxOf c.2)) := by
  have hsh := h.shape hP hr
  intro n
  induction n with
  | zero =>
    intro i hn hi
    obtain rfl : i = 0 := by omega
    rw [h.first]; rfl
  | succ n ih =>
    intro i hn hi
    by_cases h0 : i = 0
    · subst h0; rw [h.first]; rfl
    · obtain ⟨f1, _, _, f⟩ := h.facts hP hr i hi
      obtain ⟨k0, hpS, hlt, hg⟩ := f (by omega)
      have hol := h.lt _ (List.getElem_mem hi)
      rw [pc_succ hsh.2.1 (by omega) (by rw [sub_len]; exact hi), pc_succ hP k0 hol, List.map_append]
      have e : parN (subT L O) i = O.idxOf (parN L O[i]) := by
        show (parOf (subT L O) i).toNat = _
        rw [hpS]; simp
      have e2 : O[O.idxOf (parN L O[i])]'(by omega) = parN L O[i] := by
        rw [List.getElem?_eq_getElem (show O.idxOf (parN L O[i]) < O.length by omega)] at hg
        exact Option.some.inj hg
      rw [e, ih _ (by omega) (by omega), e2, f1]
      simp [idx_at (asc_nodup h.asc) i hi]
theorem SubOk.dis (h : SubOk L O) (hP : Par L) (hr : parOf L 0 = -1) (hD : Dis L) : Dis (subT L O) := by
  intro x y x0 hx y0 hy hp hn
  rw [sub_len] at hx hy
  obtain ⟨n1, _, _, f⟩ := h.facts hP hr x hx
  obtain ⟨n2, _, _, g⟩ := h.facts hP hr y hy
  obtain ⟨k0, p1, _, g1⟩ := f x0
  obtain ⟨m0, p2, _, g2⟩ := g y0
  rw [p1, p2] at hp
  have e : O.idxOf (parN L O[x]) = O.idxOf (parN L O[y]) := by omega
  rw [e, g2] at g1
  have e2 : parN L O[y] = parN L O[x] := Option.some.inj g1
  have hxl := h.lt _ (List.getElem_mem hx)
  have hyl := h.lt _ (List.getElem_mem hy)
  have := hD O[x] O[y] k0 hxl m0 hyl (by rw [← (parN_lt hP k0 hxl).2, ← (parN_lt hP m0 hyl).2, e2]) (by rw [← n1, ← n2, hn])
  have i1 := idx_at (asc_nodup h.asc) x hx
  have i2 := idx_at (asc_nodup h.asc) y hy
  rw [this] at i1
  omega
theorem SubOk.ascT (h : SubOk L O) (hP : Par L) (hr : parOf L 0 = -1) (hD : Dis L) (hA : Asc L) : Asc (subT L O) := by
  intro i h0 hi
  rw [sub_len] at hi
  have hlt := (List.pairwise_iff_getElem.1 h.asc) (i - 1) i (by omega) hi (by omega)
  have ha := h.lt _ (List.getElem_mem (show i - 1 < O.length by omega))
  have hb := h.lt _ (List.getElem_mem hi)
  have hp := asc_all hA O[i] O[i - 1] hlt hb
  unfold ltI at hp ⊢
  rw [h.pc hP hr _ (i - 1) (Nat.le_refl _) (by omega), h.pc hP hr _ i (Nat.le_refl _) hi]
  refine ltP_map _ _ _ (fun r x y p' q' e1 e2 hc => ?_) hp
  obtain ⟨x0, xl, xn, xp⟩ := pc_part hP _ _ (Nat.le_refl _) ha r x p' e1
  obtain ⟨y0, yl, yn, yp⟩ := pc_part hP _ _ (Nat.le_refl _) hb r y q' e2
  rcases hc with hc | ⟨hc, hc2⟩
  · exact .inl hc
  · exfalso
    have px := parN_lt hP x0 xl
    have py := parN_lt hP y0 yl
    have e := pc_inj hP (show parN L x.2 < L.length by omega) (show parN L y.2 < L.length by omega) (xp.trans yp.symm)
    have := hD x.2 y.2 x0 xl y0 yl (by rw [← px.2, ← py.2, e]) (by rw [← xn, ← yn, hc])
    omega
theorem SubOk.dep (h : SubOk L O) (hP : Par L) (hr : parOf L 0 = -1) : ∀ (f i : Nat) (hi : i < O.length), depF (subT L O) f i = depF L f O[i] := by
  intro f
  induction f with
  | zero => intro i hi; rfl
  | succ f ih =>
    intro i hi
    unfold depF
    by_cases h0 : i = 0
    · subst h0; rw [h.first]; simp
    · obtain ⟨_, _, _, g⟩ := h.facts hP hr i hi
      obtain ⟨k0, hpS, hlt, hg⟩ := g (by omega)
      rw [if_pos (by omega), if_pos (by omega)]
      simp only [Int.toNat_natCast]
      have hol := h.lt _ (List.getElem_mem hi)
      have e2 : O[O.idxOf (parN L O[i])]'(by omega) = parN L O[i] := by
        rw [List.getElem?_eq_getElem (show O.idxOf (parN L O[i]) < O.length by omega)] at hg
        exact Option.some.inj hg
      rw [hpS, ih _ (by omega), e2, ← (parN_lt hP k0 hol).2]
theorem SubOk.valid (h : SubOk L O) (hc : checkT L = 0) : checkT (subT L O) = 0 := by
  have hp := check_parts hc
  have h0 : 0 < L.length := h.lt 0 h.zero
  have hP := par_of_named hp.2.1
  have hr := named_root hp.2.1 h0
  have hD := dis_check hc
  have hA := ((walked_iff hP hr).1 hp.2.2.1).2
  have hS := h.shape hP hr
  have hlen := h.len
  have hl2 := (limits_len hp.1).2
  have hnamed : namedT (subT L O) = true := by
    refine named_of _ 0 fun k hk => ?_
    have hkO : k < O.length := by rw [sub_len] at hk; exact hk
    obtain ⟨n1, n2, n3, n4⟩ := h.facts hP hr k hkO
    have hol := h.lt _ (List.getElem_mem hkO)
    have hat := named_at L 0 hp.2.1 O[k] hol
    rw [Nat.zero_add] at hat ⊢
    rw [nameOf_at hk, nameOf_at hol] at n1
    rw [propsOf_at hk, propsOf_at hol] at n2
    refine ⟨?_, by rw [n2]; exact hat.2⟩
    have hh := hat.1
    unfold headB at hh ⊢
    by_cases e : k = 0
    · rw [if_pos e]
      obtain ⟨z1, z2⟩ := n3 e
      rw [if_pos z1] at hh
      rw [parOf_at hk] at z2
      rw [z2, n1]
      rw [Bool.and_eq_true] at hh
      rw [hh.2]; rfl
    · obtain ⟨k0, p1, p2, _⟩ := n4 (by omega)
      rw [if_neg e]
      rw [if_neg (by omega), Bool.and_eq_true] at hh
      rw [parOf_at hk] at p1
      rw [p1, n1, hh.2]
      simp; omega
  refine check_of ⟨?_, hnamed, ?_, ?_, ?_⟩
  · unfold limitsT
    rw [Bool.and_eq_true, List.all_eq_true]
    have hpos := h.pos
    refine ⟨by rw [sub_len]; simp; omega, fun n hn => ?_⟩
    obtain ⟨k, hk, rfl⟩ := List.getElem_of_mem hn
    have hkO : k < O.length := by rw [sub_len] at hk; exact hk
    obtain ⟨_, n2, _, _⟩ := h.facts hP hr k hkO
    have hol := h.lt _ (List.getElem_mem hkO)
    rw [propsOf_at hk, propsOf_at hol] at n2
    have := hp.1
    unfold limitsT at this
    rw [Bool.and_eq_true] at this
    have := List.all_eq_true.1 this.2 _ (List.getElem_mem hol)
    unfold fitB at this ⊢
    rw [n2]; exact this
  · refine (walked_iff hS.2.1 hS.2.2).2 ⟨fun j hj => ?_, h.ascT hP hr hD hA⟩
    have hkO : j < O.length := by rw [sub_len] at hj; exact hj
    obtain ⟨_, n2, _, _⟩ := h.facts hP hr j hkO
    rw [n2]
    exact ((walked_iff hP hr).1 hp.2.2.1).1 _ (h.lt _ (List.getElem_mem hkO))
  · rw [twin_dup hnamed]
    unfold dupAny
    rw [List.any_eq_false]
    intro i hi hd
    rw [List.mem_range] at hi
    obtain ⟨c, c0, ci, hp1, hm⟩ := (dupF_iff _ i i).1 hd
    have := h.dis hP hr hD c i c0 (by omega) (by omega) hi hp1 hm
    omega
  · unfold deepT
    rw [List.any_eq_false]
    intro i hi
    rw [List.mem_range] at hi
    have hiO : i < O.length := by rw [sub_len] at hi; exact hi
    have hol := h.lt _ (List.getElem_mem hiO)
    have hdp := deep_check hc O[i] hol
    unfold depT
    rw [h.dep hP hr _ i hiO]
    have := dep_mono L O[i] O.length L.length hlen
    rw [sub_len]
    simp; omega
end
end Go.Proofs.Ytjfkjnakmmkkiaa

open Go
namespace Go.Proofs.Ytjfkjnakmmkkiaa

def remF (T : List NodeT) (a : Nat) : Nat → Nat → Bool
  | 0, i => i == a
  | f + 1, i => i == a || (decide (0 < i) && remF T a f (parN T i))
/-- Is node i a, or below it? -/
def remB (T : List NodeT) (a i : Nat) : Bool := remF T a i i
theorem remF_und {T : List NodeT} (h : Par T) {a : Nat} (ha : a < T.length) : ∀ (f i : Nat), i ≤ f → i < T.length → (remF T a f i = true ↔ Und T a i) := by
  intro f
  induction f with
  | zero =>
    intro i hi hil
    obtain rfl : i = 0 := by omega
    unfold remF
    rw [beq_iff_eq]
    constructor
    · rintro rfl; exact und_refl _ _
    · intro hu; have := und_le h ha 0 0 (Nat.le_refl _) hil hu; omega
  | succ f ih =>
    intro i hi hil
    unfold remF
    rw [Bool.or_eq_true, beq_iff_eq, Bool.and_eq_true, decide_eq_true_iff]
    by_cases h0 : i = 0
    · subst h0
      constructor
      · rintro (rfl | ⟨h1, _⟩)
        · exact und_refl _ _
        · omega
      · intro hu; have := und_le h ha 0 0 (Nat.le_refl _) hil hu; left; omega
    · have hp := parN_lt h (by omega) hil
      rw [ih _ (by omega) (by omega), und_step h ha (by omega) hil]
      constructor
      · rintro (e | ⟨_, e⟩)
        · exact .inl e.symm
        · exact .inr e
      · rintro (e | e)
        · exact .inl e.symm
        · exact .inr ⟨by omega, e⟩
theorem remB_und {T : List NodeT} (h : Par T) {a i : Nat} (ha : a < T.length) (hi : i < T.length) : remB T a i = true ↔ Und T a i := remF_und h ha i i (Nat.le_refl _) hi
theorem remB_step {T : List NodeT} (h : Par T) {a i : Nat} (ha : a < T.length) (hi : i < T.length) : remB T a i = (i == a || (decide (0 < i) && remB T a (parN T i))) := by
  by_cases h0 : i = 0
  · subst h0; simp [remB, remF]
  · have hp := parN_lt h (by omega) hi
    have e : ∀ (x y : Bool), (x = true ↔ y = true) → x = y := by decide
    apply e
    rw [remB_und h ha hi, und_step h ha (by omega) hi, Bool.or_eq_true, beq_iff_eq, Bool.and_eq_true, decide_eq_true_iff, remB_und h ha (by omega)]
    constructor
    · rintro (e | e)
      · exact .inl e.symm
      · exact .inr ⟨by omega, e⟩
    · rintro (e | ⟨_, e⟩)
      · exact .inl e.symm
      · exact .inr e
def keepO (T : List NodeT) (a k : Nat) : List Nat := (List.range k).filter fun i => !remB T a i
def plcT (T : List NodeT) (a i : Nat) : Int := if remB T a i = true then -1 else ((keepO T a i).length : Int)
def keepNode (T : List NodeT) (a i : Nat) : NodeT := ⟨if i = 0 then parOf T 0 else plcT T a (parN T i), nameOf T i, propsOf T i⟩
def keepN (T : List NodeT) (a k : Nat) : List NodeT := (keepO T a k).map (keepNode T a)
theorem keepO_yes {T : List NodeT} {a k : Nat} (h : remB T a k = false) : keepO T a (k + 1) = keepO T a k ++ [k] := by
  unfold keepO; rw [List.range_succ, List.filter_append]; simp [h]
theorem keepO_no {T : List NodeT} {a k : Nat} (h : remB T a k = true) : keepO T a (k + 1) = keepO T a k := by
  unfold keepO; rw [List.range_succ, List.filter_append]; simp [h]
theorem keepO_len (T : List NodeT) (a k : Nat) : (keepO T a k).length ≤ k := by
  unfold keepO; exact Nat.le_trans (List.length_filter_le _ _) (by simp)
theorem keepO_mem {T : List NodeT} {a k i : Nat} : i ∈ keepO T a k ↔ i < k ∧ remB T a i = false := by
  unfold keepO; simp
theorem keepO_asc (T : List NodeT) (a k : Nat) : (keepO T a k).Pairwise (· < ·) := by
  unfold keepO; exact List.Pairwise.filter _ List.pairwise_lt_range
theorem keepO_idx {T : List NodeT} {a j : Nat} (h : remB T a j = false) : ∀ k, j < k → (keepO T a k).idxOf j = (keepO T a j).length := by
  intro k
  induction k with
  | zero => intro h; omega
  | succ k ih =>
    intro hj
    by_cases e : j = k
    · subst e
      rw [keepO_yes h, List.idxOf_append, if_neg (by rw [keepO_mem]; omega)]
      simp
    · cases hk : remB T a k with
      | true => rw [keepO_no hk]; exact ih (by omega)
      | false =>
        rw [keepO_yes hk, List.idxOf_append, if_pos (keepO_mem.2 ⟨by omega, h⟩)]
        exact ih (by omega)
theorem keep_subok {T : List NodeT} (hP : Par T) {a : Nat} (ha : a < T.length) (a0 : a ≠ 0) : SubOk T (keepO T a T.length) := by
  have hz : remB T a 0 = false := by
    cases e : remB T a 0 with
    | false => rfl
    | true => have := und_le hP ha 0 0 (Nat.le_refl _) (by omega) ((remB_und hP ha (by omega)).1 e); omega
  refine ⟨keepO_asc _ _ _, fun k hk => (keepO_mem.1 hk).1, keepO_mem.2 ⟨by omega, hz⟩, fun k hk h0 => ?_⟩
  obtain ⟨h1, h2⟩ := keepO_mem.1 hk
  have hp := parN_lt hP h0 h1
  refine keepO_mem.2 ⟨by omega, ?_⟩
  rw [remB_step hP ha h1] at h2
  cases e : remB T a (parN T k) with
  | false => rfl
  | true => rw [e] at h2; simp [h0] at h2
theorem keep_sub {T : List NodeT} (hP : Par T) {a : Nat} (ha : a < T.length) (a0 : a ≠ 0) : keepN T a T.length = subT T (keepO T a T.length) := by
  have hs := keep_subok hP ha a0
  unfold keepN subT
  apply List.map_congr_left
  intro i hi
  unfold keepNode subN
  by_cases h0 : i = 0
  · rw [if_pos h0, if_pos h0]
  · rw [if_neg h0, if_neg h0]
    have hm := keepO_mem.1 (hs.par i hi (by omega))
    unfold plcT
    rw [if_neg (by rw [hm.2]; decide), keepO_idx hm.2 _ hm.1]
/-- What Remove returns. -/
def removeT (T : List NodeT) (s : ByteArray) : List NodeT × Int :=
  if (rBeginT T s).2 ≠ 0 then ([], (rBeginT T s).2) else if (rBeginT T s).1 = 0 then ([], 1) else (subT T (keepO T (rBeginT T s).1.toNat T.length), 0)
theorem remove_ok {T : List NodeT} {s : ByteArray} {k : Nat} (hb : rBeginT T s = ((k : Int), 0)) : removeT T s = if k = 0 then ([], 1) else (subT T (keepO T k T.length), 0) := by
  unfold removeT; rw [hb, if_neg (by simp)]
  by_cases h : k = 0
  · subst h; rfl
  · rw [if_neg (by simpa using h), if_neg h]; rfl
def plArr (T : List NodeT) (a k : Nat) : Array Value := ((List.range T.length).map fun i => Value.int .i64 (if i < k then plcT T a i else 0)).toArray
theorem plArr_at (T : List NodeT) (a k i : Nat) (h : i < T.length) : (plArr T a k)[i]? = some (.int .i64 (if i < k then plcT T a i else 0)) := by unfold plArr; simp [h]
theorem plArr_zero (T : List NodeT) (a : Nat) : plArr T a 0 = Array.replicate T.length (.int .i64 0) := by
  unfold plArr
  apply Array.ext
  · simp
  · intro i h1 h2; simp
theorem plArr_set (T : List NodeT) (a k : Nat) (h : k < T.length) : (plArr T a k).setIfInBounds k (.int .i64 (plcT T a k)) = plArr T a (k + 1) := by
  unfold plArr
  apply Array.ext
  · simp
  · intro i h1 h2
    simp at h1
    rw [Array.getElem_setIfInBounds (by simpa using h1)]
    by_cases e : k = i
    · subst e; simp
    · have : (i < k) = (i < k + 1) := by apply propext; omega
      simp [e, this]
end Go.Proofs.Ytjfkjnakmmkkiaa

namespace Go.Proofs.Ytjfkjnakmmkkiaa
open Go.RowKit

theorem keep_valid {T : List NodeT} (hc : checkT T = 0) {a : Nat} (ha : a < T.length) (a0 : a ≠ 0) : checkT (subT T (keepO T a T.length)) = 0 :=
  (keep_subok (par_of_named (check_parts hc).2.1) ha a0).valid hc
theorem remB_self {T : List NodeT} (h : Par T) {a : Nat} (ha : a < T.length) : remB T a a = true := by rw [remB_step h ha ha]; simp
theorem remB_zero {T : List NodeT} (h : Par T) {a : Nat} (ha : a < T.length) (a0 : a ≠ 0) : remB T a 0 = false := by
  rw [remB_step h ha (by omega)]; simp; omega
theorem plcT_bd (T : List NodeT) (a i : Nat) : -1 ≤ plcT T a i ∧ plcT T a i ≤ i := by
  unfold plcT
  split
  · omega
  · have := keepO_len T a i; omega
def pvAt (w : World) (g o i : Nat) : Value := (w.cell? ⟨g, o + i * 3 + 2, none⟩).getD undef
def RemW (T : List NodeT) (a g o gP n cap : Nat) (W : World) (f : Nat) (x y : Value) (wr : World) : Prop :=
  ∃ i : Nat, y = .int .i64 i ∧ i ≤ T.length ∧ T.length ≤ i + f ∧ wr.ownsRow W.heap.size 42 3 x (keepO T a i).length (nodeCells (keepN T a i) ((keepO T a i).map (pvAt W g o))) ∧
    Holds wr gP (plArr T a i) 3 ∧ Holds wr W.heap.size #[.slice (some ⟨g, o, none⟩) n cap] 27 ∧ Holds wr (W.heap.size + 1) #[.slice none 0 0] 27 ∧ Below W.heap.size W wr

set_option maxRecDepth 100000 in
set_option maxHeartbeats 4000000 in
theorem tree_Remove (R : Nat → Prop) (v : Value) (T : List NodeT) (s : ByteArray) (w : World) (hT : NodesIn R w v T) :
    Calls Try.prog 30 #[.agg #[v], .string s] w (EditPost (removeT T s) w) := by
  obtain ⟨a, cap, rfl, hc1, hc2⟩ := hT.shape
  have HT := Lib.hid hT.bound; clear hT
  have hbg := fun wx hx => tree_begin (fun g => g < w.heap.size) (.slice a T.length cap) T s wx hx
  obtain ⟨W0, hW0⟩ : ∃ W0, W0 = (w.alloc (.cells #[.slice a T.length cap] 27)).alloc (.cells #[.slice none 0 0] 27) := ⟨_, rfl⟩
  have hb0 : Below w.heap.size w W0 := by rw [hW0]; exact ((Below.refl _ _).alloc (Nat.le_refl _) _).alloc (by simp) _
  have hX0 : Holds W0 w.heap.size #[.slice a T.length cap] 27 := by rw [hW0]; exact (Holds.new w #[.slice a T.length cap] 27).alloc _
  have hZ0 : Holds W0 (w.heap.size + 1) #[.slice none 0 0] 27 := by rw [hW0]; exact Holds.newAt (w := w.alloc (.cells #[.slice a T.length cap] 27)) (B := w.heap.size + 1) (by simp) #[.slice none 0 0] 27
  have hT0 : NodesIn (fun g => g < w.heap.size) W0 (.slice a T.length cap) T := HT.out.new hb0
  have hsz0 := hb0.size
  have hzl := hZ0.lt
  rcases begin_cases T s with ⟨hne, h10⟩ | ⟨hck, k, hk, hbe, hps⟩
  · have hE := Lib.hid (show removeT T s = ([], (rBeginT T s).2) from by unfold removeT; rw [if_pos hne])
    have hne' : ((rBeginT T s).2 != 0) = true := by simpa using hne
    rw [h10] at hbg
    have HBG := Lib.hid hbg
    clear hbg hne h10
    generalize (rBeginT T s).2 = c at *
    go_enter Try.func30, Try.ntmps30
    go_wp2_with fail
    rw [← hW0]
    refine (HBG.out _ (by exact hT0)).mono ?_
    rintro e w1 ⟨rfl, hb1⟩
    have hZ1 := hZ0.keeps (Keeps.of_fresh hb1 (fun _ => False)) (fun e => e)
    have hb2 := hb0.trans (hb1.mono hsz0)
    have z0 := hZ1.cell 0
    have zf := hZ1.free 0
    go_wp2_with fail
    have q0 : (w1.setCell ⟨w.heap.size + 1, 0, none⟩ (.slice none 0 0)).cell? ⟨w.heap.size + 1, 0, none⟩ = some (.slice none 0 0) := (hZ1.set 0 _).cell 0
    exact bodyPost_ret (v := .tuple #[.agg #[.slice none 0 0], .int .i64 c]) (by simp [results, Try.results30, go_sem, q0]) rfl ⟨_, by rw [hE.out], by rw [hE.out]; exact TreeRow.nil _ _, hb2.setCell (p := ⟨w.heap.size + 1, 0, none⟩) (by simp) _⟩
  · rw [hbe] at hbg
    have HBG := Lib.hid hbg
    have hE := Lib.hid (remove_ok hbe)
    clear hbg hbe
    by_cases hk0 : k = 0
    · subst hk0
      have hF := Lib.hid (show removeT T s = ([], 1) from by rw [hE.out, if_pos rfl])
      clear hE
      go_enter Try.func30, Try.ntmps30
      go_wp2_with fail
      rw [← hW0]
      refine (HBG.out _ (by exact hT0)).mono ?_
      rintro e w1 ⟨rfl, hb1⟩
      have hZ1 := hZ0.keeps (Keeps.of_fresh hb1 (fun _ => False)) (fun e => e)
      have hb2 := hb0.trans (hb1.mono hsz0)
      have z0 := hZ1.cell 0
      have zf := hZ1.free 0
      go_wp2_with fail
      have q0 : (w1.setCell ⟨w.heap.size + 1, 0, none⟩ (.slice none 0 0)).cell? ⟨w.heap.size + 1, 0, none⟩ = some (.slice none 0 0) := (hZ1.set 0 _).cell 0
      exact bodyPost_ret (v := .tuple #[.agg #[.slice none 0 0], .int .i64 1]) (by simp [results, Try.results30, go_sem, q0]) rfl ⟨_, by rw [hF.out], by rw [hF.out]; exact TreeRow.nil _ _, hb2.setCell (p := ⟨w.heap.size + 1, 0, none⟩) (by simp) _⟩
    · have hF := Lib.hid (show removeT T s = (subT T (keepO T k T.length), 0) from by rw [hE.out, if_neg hk0])
      have hl2 := (limits_len (check_limits hck)).2
      have hpar := par_of_named (check_parts hck).2.1
      have hkb : ((k : Int) == 0) = false := by rw [beq_eq_false_iff_ne]; omega
      obtain ⟨g, o, _, _, hae, hg, -⟩ := HT.out.at 0 (by omega)
      subst hae
      have HCK := Lib.hid hck
      have hmi := fun wx => make_ints T.length (by omega) wx
      clear hE hck
      go_enter Try.func30, Try.ntmps30
      go_wp2_with fail
      rw [← hW0]
      refine (HBG.out _ (by exact hT0)).mono ?_
      rintro e w1 ⟨rfl, hb1⟩
      have kk1 := Keeps.of_fresh hb1 (fun _ => False)
      have hX1 := hX0.keeps kk1 (fun e => e)
      have hZ1 := hZ0.keeps kk1 (fun e => e)
      have hb2 := hb0.trans (hb1.mono hsz0)
      have x0 := hX1.cell 0
      have x1 := (hX1.alloc (.cells (Array.replicate T.length (.int .i64 0)) 3)).cell 0
      have hb3 := hb2.alloc hb2.size (.cells (Array.replicate T.length (.int .i64 0)) 3)
      have hR0 : RemW T k g o w1.heap.size T.length cap w T.length (.slice none 0 0) (.int .i64 0) (w1.alloc (.cells (Array.replicate T.length (.int .i64 0)) 3)) :=
        ⟨0, rfl, by omega, by omega, World.ownsRow_nil _ _ _ _, by rw [plArr_zero]; exact Holds.new _ _ _, hX1.alloc _, hZ1.alloc _, hb3⟩
      have hgP : w.heap.size + 2 ≤ w1.heap.size := by have := hZ1.lt; omega
      clear hX0 hZ0 hT0 hb0 hb1 kk1 hZ1 hb2 hb3 HBG
      go_wp2_with fail
      generalize w1.heap.size = gP at *
      clear hX1 x0 x1 hmi
      go_loopg [8, 34] T.length (fun f x y wr => RemW T k g o gP T.length cap w f x y wr)
      case atStart => exact hR0
      case round =>
        clear hR0
        obtain ⟨i, rfl, hi1, hi2, hown, hP, hX, hZ, hb⟩ := hrel
        by_cases hlt : i < T.length
        · have hlt' : (i : Int) < T.length := by omega
          obtain ⟨g', o', pa, pc, hae', hgl, q0, q1, q2, hPP, hpc1, hpc2, hns, hp0, hp1⟩ := (HT.out.new hb).at i hlt
          injection hae' with hae'
          injection hae' with hg' ho'
          subst hg'
          subst ho'
          have hpv : pvAt w g o i = .slice pa T[i].props.length pc := by
            unfold pvAt
            rw [← hb.cell (p := ⟨g, o + i * 3 + 2, none⟩) hg, q2]; rfl
          have hkn : keepNode T k i = ⟨if i = 0 then parOf T 0 else plcT T k (parN T i), T[i].name, T[i].props⟩ := by unfold keepNode; rw [nameOf_at hlt, propsOf_at hlt]
          have hst := remB_step hpar hk hlt
          have hp00 : i = 0 → parOf T 0 = T[i].parent := fun e => by subst e; rw [parOf_at hlt]
          have hpp : 0 < i → T[i].parent = ((parN T i : Nat) : Int) ∧ parN T i < i := fun h0 => by
            have := parN_lt hpar h0 hlt
            rw [this.2, parOf_at hlt]; exact ⟨rfl, this.1⟩
          have hPl := Lib.hid hP
          have pf := hP.free i
          have pfl := hP.lt
          have p0 := (hP.cell i).trans (plArr_at T k i i hlt)
          have hkl := keepO_len T k i
          have hset := plArr_set T k i hlt
          have HOW := Lib.hid hown
          obtain ⟨xa, xc, rfl⟩ := row_slice hown
          have hbs := hb.size
          clear hown hP hPP hgl
          generalize T[i].parent = par at *
          generalize T[i].name = nm at *
          generalize T[i].props = prs at *
          -- the node's own copy, and the store of its place
          have hgX : gP ≠ w.heap.size := by omega
          have hgZ : gP ≠ w.heap.size + 1 := by omega
          have hgN : gP ≠ wr.heap.size := by omega
          have hput : ∀ (pr : Int) (x : Value),
              ((wr.setCell ⟨gP, i, none⟩ x).alloc (.cells #[.int .i64 pr, .string nm, .slice pa prs.length pc] 42)).ownsRow w.heap.size 42 3 (.slice xa (keepO T k i).length xc) (keepO T k i).length (nodeCells (keepN T k i) ((keepO T k i).map (pvAt w g o))) ∧
              Holds ((wr.setCell ⟨gP, i, none⟩ x).alloc (.cells #[.int .i64 pr, .string nm, .slice pa prs.length pc] 42)) gP ((plArr T k i).setIfInBounds i x) 3 ∧
              Holds ((wr.setCell ⟨gP, i, none⟩ x).alloc (.cells #[.int .i64 pr, .string nm, .slice pa prs.length pc] 42)) w.heap.size #[.slice (some ⟨g, o, none⟩) T.length cap] 27 ∧
              Holds ((wr.setCell ⟨gP, i, none⟩ x).alloc (.cells #[.int .i64 pr, .string nm, .slice pa prs.length pc] 42)) (w.heap.size + 1) #[.slice none 0 0] 27 ∧
              Holds ((wr.setCell ⟨gP, i, none⟩ x).alloc (.cells #[.int .i64 pr, .string nm, .slice pa prs.length pc] 42)) wr.heap.size #[.int .i64 pr, .string nm, .slice pa prs.length pc] 42 ∧
              Below w.heap.size w ((wr.setCell ⟨gP, i, none⟩ x).alloc (.cells #[.int .i64 pr, .string nm, .slice pa prs.length pc] 42)) := fun pr x => by
            have hb1 := hb.setCell (p := ⟨gP, i, none⟩) (by show w.heap.size ≤ gP; omega) x
            exact ⟨row_new (row_set HOW.out hPl.out (by decide) i x) ((Below.refl _ _).alloc (Nat.le_refl _) _), (hPl.out.set i x).alloc _, (hX.other _ _ (by show w.heap.size ≠ gP; omega)).alloc _, (hZ.other _ _ (by show w.heap.size + 1 ≠ gP; omega)).alloc _,
              Holds.newAt (w := wr.setCell ⟨gP, i, none⟩ x) (by simp) _ _, hb1.alloc hb1.size _⟩
          have HPUT := Lib.hid hput
          have hal : Below wr.heap.size wr (wr.alloc (.cells #[.int .i64 par, .string nm, .slice pa prs.length pc] 42)) := (Below.refl _ _).alloc (Nat.le_refl _) _
          have hN0 := Holds.new wr #[.int .i64 par, .string nm, .slice pa prs.length pc] 42
          have hP1 := hPl.out.alloc (.cells #[.int .i64 par, .string nm, .slice pa prs.length pc] 42)
          have pf1 := hP1.free i
          have p1 := (hP1.cell i).trans (plArr_at T k i i hlt)
          simp only [Nat.lt_irrefl, if_false] at p1
          -- what is removed
          have hrem : remB T k i = true → Hid (RemW T k g o gP T.length cap w (gk - 1) (.slice xa (keepO T k i).length xc) (.int .i64 ((i : Int) + 1)) ((wr.setCell ⟨gP, i, none⟩ (.int .i64 (-1))).alloc (.cells #[.int .i64 par, .string nm, .slice pa prs.length pc] 42))) := fun hr => Lib.hid (by
            obtain ⟨g1, g2, g3, g4, _, g6⟩ := HPUT.out par (.int .i64 (-1))
            refine ⟨i + 1, rfl, by omega, by omega, ?_, ?_, g3, g4, g6⟩
            · unfold keepN
              rw [keepO_no hr]; exact g1
            · have e : plcT T k i = -1 := by unfold plcT; rw [if_pos hr]
              have e2 : (plArr T k i).setIfInBounds i (.int .i64 (-1)) = plArr T k (i + 1) := by rw [← hset, e]
              rw [e2] at g2
              exact g2)
          -- what is kept, behind the store of its place
          have hkep : remB T k i = false → Hid (∀ (pr : Int), pr = (if i = 0 then parOf T 0 else plcT T k (parN T i)) → ∀ (w9 : World) (u : Value), w9.ownsRow w.heap.size 42 3 u ((keepO T k i).length + 1) (nodeCells (keepN T k i) ((keepO T k i).map (pvAt w g o)) ++ [.int .i64 pr, .string nm, .slice pa prs.length pc]) →
              w9.ownsRow w.heap.size 42 3 u (keepO T k (i + 1)).length (nodeCells (keepN T k (i + 1)) ((keepO T k (i + 1)).map (pvAt w g o)))) := fun hr => Lib.hid (fun pr hpr w9 u h => by
            unfold keepN at *
            rw [keepO_yes hr, List.map_append, List.map_append, List.map_singleton, List.map_singleton, nodeCells_snoc _ _ _ _ (by simp), hkn, hpv, List.length_append, List.length_singleton, ← hpr]
            exact h)
          have hplc : remB T k i = false → plcT T k i = ((keepO T k i).length : Int) := fun hr => by unfold plcT; rw [if_neg (by rw [hr]; decide)]
          have hkeep2 : remB T k i = false → ∀ pr : Int, pr = (if i = 0 then parOf T 0 else plcT T k (parN T i)) → Hid (
              (((wr.setCell ⟨gP, i, none⟩ (.int .i64 ((keepO T k i).length : Int))).alloc (.cells #[.int .i64 pr, .string nm, .slice pa prs.length pc] 42)).alloc (.cells #[.int .i64 pr, .string nm, .slice pa prs.length pc] 42)).ownsRow w.heap.size 42 3 (.slice xa (keepO T k i).length xc) (keepO T k i).length (nodeCells (keepN T k i) ((keepO T k i).map (pvAt w g o))) ∧
              ∀ u w9, w9.ownsRow w.heap.size 42 3 u ((keepO T k i).length + 1) (nodeCells (keepN T k i) ((keepO T k i).map (pvAt w g o)) ++ [.int .i64 pr, .string nm, .slice pa prs.length pc]) →
                (((wr.setCell ⟨gP, i, none⟩ (.int .i64 ((keepO T k i).length : Int))).alloc (.cells #[.int .i64 pr, .string nm, .slice pa prs.length pc] 42)).alloc (.cells #[.int .i64 pr, .string nm, .slice pa prs.length pc] 42)).grownBy w9 (Value.slice xa (keepO T k i).length xc).ownBlock →
                RemW T k g o gP T.length cap w (gk - 1) u (.int .i64 ((i : Int) + 1)) w9) := fun hr pr hpr => Lib.hid (by
            obtain ⟨g1, g2, g3, g4, _, g6⟩ := HPUT.out pr (.int .i64 ((keepO T k i).length : Int))
            rw [← hplc hr, hset, hplc hr] at g2
            have hal2 := (Below.refl ((wr.setCell ⟨gP, i, none⟩ (.int .i64 ((keepO T k i).length : Int))).alloc (.cells #[.int .i64 pr, .string nm, .slice pa prs.length pc] 42)).heap.size _).alloc (Nat.le_refl _) (.cells #[.int .i64 pr, .string nm, .slice pa prs.length pc] 42)
            have o1 := row_new g1 hal2
            refine ⟨o1, fun u w9 h9 hg9 => ?_⟩
            have hne : ∀ {b : Nat} {cs : Array Value} {t : TypeId}, Holds ((wr.setCell ⟨gP, i, none⟩ (.int .i64 ((keepO T k i).length : Int))).alloc (.cells #[.int .i64 pr, .string nm, .slice pa prs.length pc] 42)) b cs t → t ≠ 42 → Holds w9 b cs t := fun h ht =>
              (h.alloc _).grown hg9 (owns_ne_holds o1 (h.alloc _) ht)
            exact ⟨i + 1, rfl, by omega, by omega, (hkep hr).out pr hpr w9 u h9, hne g2 (by decide), hne g3 (by decide), hne g4 (by decide), (g6.alloc g6.size _).grown hg9 (by have := g6.size; simp at this ⊢; omega) (fun b e => (o1.lt b e).1)⟩)
          by_cases hik : i = k
          · have hr : remB T k i = true := by rw [hst, hik]; simp
            have HF := hrem hr
            have hikb : ((i : Int) == (k : Int)) = true := by rw [hik]; simp
            clear hrem hkep hplc hst hN0 HOW hPl hset hX hZ hb hal hik hput hkeep2
            go_wp2_with fail
            go_roundg (gk - 1)
            case measure => omega
            case rel => exact HF.out
          · have hikb : ((i : Int) == (k : Int)) = false := by rw [beq_eq_false_iff_ne]; omega
            have hikB : (i == k) = false := by rw [beq_eq_false_iff_ne]; exact hik
            rw [hikB, Bool.false_or] at hst
            obtain ⟨i0, hi, hz0, hz1, hz2⟩ := info_parts infoNd
            have hkl2 : (keepO T k i).length ≤ 120 := by omega
            by_cases hi0 : i = 0
            · have hr : remB T k i = false := by rw [hst, hi0]; simp
              have HK2 := hkeep2 hr par (by rw [if_pos hi0, hp00 hi0])
              have hig : ¬ (0 < (i : Int)) := by omega
              clear hkeep2 hrem hkep hplc hst hN0 HOW hPl hset hX hZ hb hal hik hput hi0
              go_wp2_with (at_builtin; refine wpList_append_own _ rfl _ _ 25 rfl w.heap.size 42 i0 (.agg #[.int .i64 0, .string ⟨#[]⟩, .slice none 0 0]) 3 48 Try.underlying25 hi hz0 hz1 hz2 rfl (by decide) _ (keepO T k i).length (nodeCells (keepN T k i) ((keepO T k i).map (pvAt w g o))) rfl (by exact HK2.out.1) ⟨wr.heap.size + 1, 0, none⟩ 1 1 [.int .i64 par, .string nm, .slice pa prs.length pc] rfl rfl (by exact new_cells _ _ _ (wr.heap.size + 1) (by simp) _ rfl) (by intro u hu; simp at hu; rcases hu with rfl | rfl | rfl <;> rfl) (by unfold maxLen; omega) (by omega) (by simp; omega) ?_)
              intro v' w9 hown9 hgrow _
              obtain ⟨ra', rc', rfl⟩ := row_slice hown9
              have HF := Lib.hid (HK2.out.2 _ w9 hown9 hgrow)
              clear hown9 hgrow HK2
              go_wp2_with fail
              go_roundg (gk - 1)
              case measure => omega
              case rel => exact HF.out
            · have h0 : 0 < i := by omega
              have h0' : (0 : Int) < (i : Int) := by omega
              obtain ⟨hpe, hpi⟩ := hpp h0
              have hpT : parN T i < T.length := by omega
              have hpT' : ((parN T i : Nat) : Int) < (T.length : Int) := by omega
              have hbd := plcT_bd T k (parN T i)
              have pp := (hP1.cell (parN T i)).trans (plArr_at T k i (parN T i) hpT)
              rw [if_pos hpi] at pp
              rw [show decide (0 < i) = true from by simpa using h0, Bool.true_and] at hst
              subst hpe
              cases hrp : remB T k (parN T i) with
              | true =>
                have HF := hrem (by rw [hst, hrp])
                have hpl : plcT T k (parN T i) = -1 := by unfold plcT; rw [if_pos hrp]
                rw [hpl] at pp
                clear hrem hkep hplc hst hN0 HOW hPl hset hX hZ hb hal hik hrp hbd hput hkeep2
                go_wp2_with fail
                go_roundg (gk - 1)
                case measure => omega
                case rel => exact HF.out
              | false =>
                have hr : remB T k i = false := by rw [hst, hrp]
                have hpl : plcT T k (parN T i) = ((keepO T k (parN T i)).length : Int) := by unfold plcT; rw [if_neg (by rw [hrp]; decide)]
                rw [hpl] at pp
                have hkp := keepO_len T k (parN T i)
                have HK2 := hkeep2 hr ((keepO T k (parN T i)).length : Int) (by rw [if_neg hi0, hpl])
                obtain ⟨-, g2, -, -, -, -⟩ := HPUT.out ((parN T i : Nat) : Int) (.int .i64 ((keepO T k i).length : Int))
                have pp2 := (g2.cell (parN T i)).trans ((Array.getElem?_setIfInBounds_ne (by omega)).trans (plArr_at T k i (parN T i) hpT))
                rw [if_pos hpi, hpl] at pp2
                clear hkeep2 hrem hkep hplc hst hN0 HOW hPl hset hX hZ hb hal hik hput hbd g2 hrp hpl
                go_wp2_with (at_builtin; (refine wpList_append_own _ rfl _ _ 25 rfl w.heap.size 42 i0 (.agg #[.int .i64 0, .string ⟨#[]⟩, .slice none 0 0]) 3 48 Try.underlying25 hi hz0 hz1 hz2 rfl (by decide) _ (keepO T k i).length (nodeCells (keepN T k i) ((keepO T k i).map (pvAt w g o))) rfl (by exact HK2.out.1) ⟨wr.heap.size + 1, 0, none⟩ 1 1 [.int .i64 ((keepO T k (parN T i)).length : Int), .string nm, .slice pa prs.length pc] rfl rfl (by exact new_cells _ _ _ (wr.heap.size + 1) (by simp) _ rfl) (by intro u hu; simp at hu; rcases hu with rfl | rfl | rfl <;> rfl) (by unfold maxLen; omega) (by omega) (by simp; omega) ?_))
                intro v' w9 hown9 hgrow _
                obtain ⟨ra', rc', rfl⟩ := row_slice hown9
                have HF := Lib.hid (HK2.out.2 _ w9 hown9 hgrow)
                clear hown9 hgrow HK2
                go_wp2_with fail
                go_roundg (gk - 1)
                case measure => omega
                case rel => exact HF.out
        · obtain rfl : i = T.length := by omega
          have hKl : (keepN T k T.length).length = (keepO T k T.length).length := by simp [keepN]
          obtain ⟨xa, xc, rfl⟩ := row_slice hown
          have hNK : NodesIn (fun _ => True) wr (.slice xa (keepO T k T.length).length xc) (keepN T k T.length) := by
            refine nodes_row (pvs := (keepO T k T.length).map (pvAt w g o)) (base := w.heap.size) (E := 42) (by rw [hKl]; exact hown) (by simp [keepN]) (fun j hj hj2 => ?_) (fun m hm => ?_) (fun _ _ => trivial)
            · have hjO : j < (keepO T k T.length).length := by rw [← hKl]; exact hj
              have hil := (keepO_mem.1 (List.getElem_mem hjO)).1
              obtain ⟨g', o', pa, pc, hae', -, -, -, q2, hPP, -⟩ := HT.out.at _ hil
              injection hae' with hae'
              injection hae' with hg' ho'
              subst hg'
              subst ho'
              have hpv : pvAt w g o (keepO T k T.length)[j] = .slice pa (T[(keepO T k T.length)[j]].props).length pc := by unfold pvAt; rw [q2]; rfl
              have e1 : ((keepO T k T.length).map (pvAt w g o))[j]'(by simpa using hjO) = .slice pa (T[(keepO T k T.length)[j]].props).length pc := by rw [List.getElem_map, hpv]
              have e2 : (keepN T k T.length)[j].props = T[(keepO T k T.length)[j]].props := by
                have e3 : (keepN T k T.length)[j] = keepNode T k (keepO T k T.length)[j] := by simp [keepN]
                rw [e3]
                show propsOf T _ = _
                rw [propsOf_at hil]
              rw [e1, e2]
              exact (hPP.new hb).mono (fun _ _ => trivial)
            · unfold keepN at hm
              obtain ⟨i, hi, rfl⟩ := List.mem_map.1 hm
              have hil := (keepO_mem.1 hi).1
              obtain ⟨_, _, _, _, _, _, _, _, _, _, _, _, hns, h0, h1⟩ := HT.out.at i hil
              have hbd := plcT_bd T k (parN T i)
              refine ⟨by show (nameOf T i).size ≤ _; rw [nameOf_at hil]; exact hns, ?_, ?_⟩
              · show _ ≤ (if i = 0 then parOf T 0 else plcT T k (parN T i))
                split
                · rename_i e; subst e; rw [parOf_at hil]; exact h0
                · omega
              · show (if i = 0 then parOf T 0 else plcT T k (parN T i)) ≤ _
                split
                · rename_i e; subst e; rw [parOf_at hil]; exact h1
                · rename_i e
                  have := parN_lt hpar (by omega) hil
                  omega
          have hch := check_parts HCK.out
          have hr0 := named_root hch.2.1 (show 0 < T.length by omega)
          have hso := keep_subok hpar hk hk0
          have heq := keep_sub hpar hk hk0
          have hval := keep_valid HCK.out hk hk0
          have hsh := hso.shape hpar hr0
          rw [heq] at hNK
          have hwt := Lib.hid (walk_Tree (fun _ => True) (.slice xa (keepO T k T.length).length xc) (subT T (keepO T k T.length)) wr (by exact hNK) hsh (hso.dis hpar hr0 (dis_check HCK.out)) (by rw [sub_len]; have := hso.len; omega) (check_props hval))
          have hss := Lib.hid (sorted_self hval hsh.1)
          clear hNK hown hch hr0 hso heq hval hsh hKl hP hX
          go_wp2_with fail
          refine hwt.out.mono ?_
          rintro e w5 ⟨tv, gQ, l, rfl, hr5, -, -, -, -, hb5⟩
          rw [hss.out] at hr5
          obtain ⟨sa, sc, rfl⟩ := tree_slice hr5
          have hZ5 := (hZ.keeps (Keeps.of_fresh hb5 (fun _ => False)) (fun e => e)).alloc (.cells #[.slice sa (subT T (keepO T k T.length)).length sc] 27)
          have z5 := hZ5.cell 0
          have f5 := hZ5.free 0
          have r5 := ((hr5.base hb.size).new ((Below.refl _ _).alloc (Nat.le_refl _) (.cells #[.slice sa (subT T (keepO T k T.length)).length sc] 27))).set hZ5 (by decide) (by decide) 0 (.slice sa (subT T (keepO T k T.length)).length sc)
          have b4 := hb.trans (hb5.mono hb.size)
          have b5 := (b4.alloc b4.size (.cells #[.slice sa (subT T (keepO T k T.length)).length sc] 27)).setCell (p := ⟨w.heap.size + 1, 0, none⟩) (by simp) (.slice sa (subT T (keepO T k T.length)).length sc)
          have c5 := (hZ5.set 0 (.slice sa (subT T (keepO T k T.length)).length sc)).cell 0
          have HF5 := Lib.hid (And.intro r5 (And.intro b5 c5))
          clear r5 b5 c5 b4 hr5 hZ5 hb5 hwt hb hZ
          generalize (subT T (keepO T k T.length)) = T5 at *
          generalize hl5 : T5.length = n5 at *
          go_wp2_with fail
          rw [hF.out]
          have hx := HF5.out.2.2
          exact bodyPost_ret (v := .tuple #[.agg #[.slice sa n5 sc], .int .i64 0]) (by simp [results, Try.results30, go_sem, hx]) rfl ⟨.slice sa n5 sc, rfl, HF5.out.1, HF5.out.2.1⟩
end Go.Proofs.Ytjfkjnakmmkkiaa

open Go
namespace Go.Proofs.Ytjfkjnakmmkkiaa

theorem noSlash {l : List UInt8} (h : nameT l = true) : ∀ x ∈ l, x ≠ 47 := by
  intro x hx e
  subst e
  unfold nameT at h
  simp only [Bool.and_eq_true] at h
  have := List.all_eq_true.1 h.2 _ hx
  revert this; decide
def flatN (ns : List (List UInt8)) : List UInt8 := ns.flatMap fun n => 47 :: n
def Tail47 (t : List UInt8) : Prop := t = [] ∨ ∃ u, t = 47 :: u
theorem tail_flat (ns : List (List UInt8)) : Tail47 (flatN ns) := by
  cases ns with
  | nil => exact .inl rfl
  | cons n ns => exact .inr ⟨n ++ flatN ns, rfl⟩
theorem no47_split : ∀ (n m t u : List UInt8), (∀ x ∈ n, x ≠ 47) → (∀ x ∈ m, x ≠ 47) → Tail47 t → Tail47 u → n ++ t = m ++ u → n = m ∧ t = u
  | [], [], t, u, _, _, _, _, h => ⟨rfl, h⟩
  | [], y :: m, t, u, _, hm, ht, _, h => by
    rcases ht with rfl | ⟨t', rfl⟩
    · cases h
    · injection h with h1 _
      exact absurd h1.symm (hm y (List.mem_cons_self ..))
  | x :: n, [], t, u, hn, _, _, hu, h => by
    rcases hu with rfl | ⟨u', rfl⟩
    · cases h
    · injection h with h1 _
      exact absurd h1 (hn x (List.mem_cons_self ..))
  | x :: n, y :: m, t, u, hn, hm, ht, hu, h => by
    injection h with h1 h2
    obtain ⟨e1, e2⟩ := no47_split n m t u (fun z hz => hn z (List.mem_cons_of_mem _ hz)) (fun z hz => hm z (List.mem_cons_of_mem _ hz)) ht hu h2
    exact ⟨by rw [h1, e1], e2⟩
def NoS (ns : List (List UInt8)) : Prop := ∀ n ∈ ns, ∀ x ∈ n, x ≠ 47
theorem flat_prefix : ∀ (ns ms : List (List UInt8)) (r : List UInt8), NoS ns → NoS ms → Tail47 r → flatN ns ++ r = flatN ms → ∃ rest, ms = ns ++ rest ∧ r = flatN rest
  | [], ms, r, _, _, _, h => ⟨ms, rfl, h⟩
  | n :: ns, [], r, _, _, _, h => by cases h
  | n :: ns, m :: ms, r, hn, hm, hr, h => by
    have h' : n ++ (flatN ns ++ r) = m ++ flatN ms := by
      have : 47 :: (n ++ flatN ns) ++ r = 47 :: (m ++ flatN ms) := h
      simpa using this
    have ht : Tail47 (flatN ns ++ r) := by
      rcases tail_flat ns with e | ⟨u, e⟩
      · rw [e]; exact hr
      · rw [e]; exact .inr ⟨u ++ r, rfl⟩
    obtain ⟨e1, e2⟩ := no47_split n m _ _ (hn n (List.mem_cons_self ..)) (hm m (List.mem_cons_self ..)) ht (tail_flat ms) h'
    obtain ⟨rest, e3, e4⟩ := flat_prefix ns ms r (fun z hz => hn z (List.mem_cons_of_mem _ hz)) (fun z hz => hm z (List.mem_cons_of_mem _ hz)) hr e2
    exact ⟨rest, by rw [e1, e3]; rfl, e4⟩
def namesL (T : List NodeT) (i : Nat) : List (List UInt8) := (pc T i).map fun c => c.1.data.toList
theorem flat_names (T : List NodeT) (i : Nat) : flatP (pc T i) = flatN (namesL T i) := by
  unfold flatP flatN namesL segT
  rw [List.flatMap_map]
theorem names_zero (T : List NodeT) : namesL T 0 = [] := rfl
theorem names_succ {T : List NodeT} (h : Par T) {i : Nat} (h0 : 0 < i) (hi : i < T.length) : namesL T i = namesL T (parN T i) ++ [(nameOf T i).data.toList] := by
  unfold namesL; rw [pc_succ h h0 hi, List.map_append]; rfl
theorem names_noS {T : List NodeT} (h : namedT T = true) : ∀ (n i : Nat), i ≤ n → i < T.length → NoS (namesL T i) := by
  have hP := par_of_named h
  intro n
  induction n with
  | zero => intro i hi _; obtain rfl : i = 0 := by omega
            intro n hn; cases hn
  | succ n ih =>
    intro i hi hil
    by_cases h0 : i = 0
    · subst h0; intro n hn; cases hn
    · have hp := parN_lt hP (by omega) hil
      rw [names_succ hP (by omega) hil]
      intro m hm
      rcases List.mem_append.1 hm with hm | hm
      · exact ih _ (by omega) (by omega) m hm
      · simp at hm
        subst hm
        have := (named_at T 0 h i hil).1
        rw [Nat.zero_add] at this
        unfold headB at this
        rw [if_neg h0, Bool.and_eq_true] at this
        rw [nameOf_at hil]
        exact noSlash this.2
theorem names_inj {T : List NodeT} (h : Par T) (hD : Dis T) : ∀ (n i j : Nat), i ≤ n → i < T.length → j < T.length → namesL T i = namesL T j → i = j := by
  intro n
  induction n with
  | zero =>
    intro i j hi _ hj e
    obtain rfl : i = 0 := by omega
    rcases Nat.eq_zero_or_pos j with rfl | h0
    · rfl
    · rw [names_zero, names_succ h h0 hj] at e
      simp at e
  | succ n ih =>
    intro i j hi hil hjl e
    rcases Nat.eq_zero_or_pos i with rfl | hi0
    · rcases Nat.eq_zero_or_pos j with rfl | h0
      · rfl
      · rw [names_zero, names_succ h h0 hjl] at e
        simp at e
    · rcases Nat.eq_zero_or_pos j with rfl | hj0
      · rw [names_zero, names_succ h hi0 hil] at e
        simp at e
      · have pi := parN_lt h hi0 hil
        have pj := parN_lt h hj0 hjl
        rw [names_succ h hi0 hil, names_succ h hj0 hjl] at e
        obtain ⟨e1, e2⟩ := List.append_inj' e rfl
        have e3 := ih _ _ (by omega) (by omega) (by omega) e1
        have e4 : nameOf T i = nameOf T j := by
          simp at e2
          exact ByteArray.ext e2
        exact hD i j hi0 hil hj0 hjl (by rw [← pi.2, ← pj.2, e3]) e4
theorem names_und {T : List NodeT} (h : Par T) (hD : Dis T) {k : Nat} (hk : k < T.length) : ∀ (n i : Nat), i ≤ n → i < T.length → namesL T k <+: namesL T i → Und T k i := by
  intro n
  induction n with
  | zero =>
    intro i hi hil hp
    obtain rfl : i = 0 := by omega
    rw [names_zero] at hp
    have := names_inj h hD k k 0 (Nat.le_refl _) hk hil (by rw [List.prefix_nil.1 hp]; rfl)
    subst this; exact und_refl _ _
  | succ n ih =>
    intro i hi hil hp
    by_cases e : namesL T k = namesL T i
    · have := names_inj h hD k k i (Nat.le_refl _) hk hil e
      subst this; exact und_refl _ _
    · have i0 : 0 < i := by
        rcases Nat.eq_zero_or_pos i with rfl | h0
        · rw [names_zero] at hp e; exact absurd (List.prefix_nil.1 hp) e
        · exact h0
      have pi := parN_lt h i0 hil
      rw [names_succ h i0 hil] at hp e
      rcases List.prefix_concat_iff.1 hp with hp | hp
      · exact absurd hp e
      · exact und_trans (ih _ (by omega) (by omega) hp) (und_par h i0 hil)
theorem und_names {T : List NodeT} {k i : Nat} (h : Und T k i) : namesL T k <+: namesL T i := by
  unfold namesL
  obtain ⟨q, hq⟩ := h
  exact ⟨q.map fun c => c.1.data.toList, by rw [← hq, List.map_append]⟩
def pathL (T : List NodeT) (i : Nat) : List UInt8 := if i = 0 then [47] else flatN (namesL T i)
theorem pathS_list (T : List NodeT) (i : Nat) : (pathS T i).data.toList = pathL T i := by
  unfold pathS pathL
  split
  · rfl
  · rw [flat_names]
theorem names_pos {T : List NodeT} (h : Par T) {i : Nat} (h0 : 0 < i) (hi : i < T.length) : namesL T i ≠ [] := by rw [names_succ h h0 hi]; simp
theorem flat_one {ns : List (List UInt8)} (h : NoS ns) (hn : ∀ n ∈ ns, n ≠ []) (e : flatN ns = [47]) : False := by
  cases ns with
  | nil => cases e
  | cons n ns =>
    have : 47 :: (n ++ flatN ns) = [47] := e
    injection this with _ h2
    have := List.append_eq_nil_iff.1 h2
    exact hn n (List.mem_cons_self ..) this.1
theorem names_full {T : List NodeT} (h : namedT T = true) : ∀ (n i : Nat), i ≤ n → i < T.length → ∀ m ∈ namesL T i, m ≠ [] := by
  have hP := par_of_named h
  intro n
  induction n with
  | zero => intro i hi _; obtain rfl : i = 0 := by omega
            intro n hn; cases hn
  | succ n ih =>
    intro i hi hil
    by_cases h0 : i = 0
    · subst h0; intro n hn; cases hn
    · have hp := parN_lt hP (by omega) hil
      rw [names_succ hP (by omega) hil]
      intro m hm
      rcases List.mem_append.1 hm with hm | hm
      · exact ih _ (by omega) (by omega) m hm
      · simp at hm
        subst hm
        have := (named_at T 0 h i hil).1
        rw [Nat.zero_add] at this
        unfold headB at this
        rw [if_neg h0, Bool.and_eq_true] at this
        rw [nameOf_at hil]
        have h2 := this.2
        unfold nameT at h2
        simp only [Bool.and_eq_true, decide_eq_true_eq] at h2
        intro e
        rw [e] at h2
        simp at h2
theorem path_inj {T : List NodeT} (h : namedT T = true) (hD : Dis T) {i j : Nat} (hi : i < T.length) (hj : j < T.length) (e : pathL T i = pathL T j) : i = j := by
  have hP := par_of_named h
  unfold pathL at e
  by_cases i0 : i = 0
  · by_cases j0 : j = 0
    · rw [i0, j0]
    · rw [if_pos i0, if_neg j0] at e
      exact (flat_one (names_noS h j j (Nat.le_refl _) hj) (names_full h j j (Nat.le_refl _) hj) e.symm).elim
  · by_cases j0 : j = 0
    · rw [if_neg i0, if_pos j0] at e
      exact (flat_one (names_noS h i i (Nat.le_refl _) hi) (names_full h i i (Nat.le_refl _) hi) e).elim
    · rw [if_neg i0, if_neg j0] at e
      obtain ⟨rest, e1, e2⟩ := flat_prefix _ _ [] (names_noS h i i (Nat.le_refl _) hi) (names_noS h j j (Nat.le_refl _) hj) (.inl rfl) (by rw [List.append_nil]; exact e)
      have : rest = [] := by
        cases rest with
        | nil => rfl
        | cons r rest => cases e2
      subst this
      rw [List.append_nil] at e1
      exact names_inj hP hD i i j (Nat.le_refl _) hi hj e1.symm
/-- A node that is removed, but for the first one: its path goes on behind that one's with a '/'. -/
theorem path_below {T : List NodeT} (h : namedT T = true) {k i : Nat} (hk : k < T.length) (hi : i < T.length) (k0 : k ≠ 0) (hik : i ≠ k) (hr : remB T k i = true) : ∃ u, pathL T i = pathL T k ++ 47 :: u := by
  have hP := par_of_named h
  have hu := (remB_und hP hk hi).1 hr
  have i0 : i ≠ 0 := by
    intro e; subst e
    have := und_le hP hk 0 0 (Nat.le_refl _) hi hu; omega
  obtain ⟨q, hq⟩ := hu
  have hqn : q ≠ [] := by
    intro e; subst e
    rw [List.append_nil] at hq
    exact hik (pc_inj hP hi hk hq.symm)
  unfold pathL
  rw [if_neg i0, if_neg k0]
  have e : namesL T i = namesL T k ++ q.map (fun c => c.1.data.toList) := by unfold namesL; rw [← hq, List.map_append]
  cases q with
  | nil => exact absurd rfl hqn
  | cons c q =>
    refine ⟨c.1.data.toList ++ flatN (q.map fun c => c.1.data.toList), ?_⟩
    rw [e]
    unfold flatN
    rw [List.flatMap_append]
    rfl
theorem path_apart {T : List NodeT} (h : namedT T = true) (hD : Dis T) {k i : Nat} (hk : k < T.length) (hi : i < T.length) (k0 : k ≠ 0) (hr : remB T k i = false) (u : List UInt8) : pathL T i ≠ pathL T k ++ 47 :: u := by
  have hP := par_of_named h
  intro e
  have hf : remB T k i = true := by
    refine (remB_und hP hk hi).2 (names_und hP hD hk i i (Nat.le_refl _) hi ?_)
    unfold pathL at e
    rw [if_neg k0] at e
    by_cases i0 : i = 0
    · rw [if_pos i0] at e
      have hne := names_pos hP (show 0 < k by omega) hk
      cases hn : namesL T k with
      | nil => exact absurd hn hne
      | cons n ns =>
        rw [hn] at e
        have : [47] = 47 :: ((n ++ flatN ns) ++ 47 :: u) := e
        injection this with _ h2
        have := List.append_eq_nil_iff.1 h2.symm
        cases this.2
    · rw [if_neg i0] at e
      obtain ⟨rest, e1, _⟩ := flat_prefix _ _ (47 :: u) (names_noS h k k (Nat.le_refl _) hk) (names_noS h i i (Nat.le_refl _) hi) (.inr ⟨u, rfl⟩) e.symm
      exact ⟨rest, e1.symm⟩
  rw [hf] at hr; cases hr
theorem path_other {T : List NodeT} (h : namedT T = true) (hD : Dis T) {k i : Nat} (hk : k < T.length) (hi : i < T.length) (hr : remB T k i = false) : pathL T i ≠ pathL T k := by
  intro e
  have := path_inj h hD hi hk e
  subst this
  rw [remB_step (par_of_named h) hk hk] at hr
  simp at hr
theorem sub_path {T : List NodeT} {O : List Nat} (hO : SubOk T O) (hP : Par T) (hr : parOf T 0 = -1) (j : Nat) (hj : j < O.length) : pathL (subT T O) j = pathL T O[j] := by
  have hn : namesL (subT T O) j = namesL T O[j] := by
    unfold namesL
    rw [hO.pc hP hr j j (Nat.le_refl _) hj, List.map_map]; rfl
  have hz : j = 0 ↔ O[j] = 0 := by
    constructor
    · rintro rfl; exact hO.first
    · intro e; have := asc_ge hO.asc j hj; omega
  unfold pathL
  rw [hn]
  by_cases e : j = 0
  · rw [if_pos e, if_pos (hz.1 e)]
  · rw [if_neg e, if_neg (fun x => e (hz.2 x))]
theorem eqS_path {T U : List NodeT} {i j : Nat} : eqS (pathS T i) (pathS U j) = true ↔ pathL T i = pathL U j := by
  rw [eqS_iff, ← pathS_list, ← pathS_list]
  constructor
  · intro e; rw [e]
  · intro e; exact ByteArray.ext (Array.toList_inj.1 e)
/-- Where a node's path is found behind Remove. -/
theorem find_kept {T : List NodeT} (hc : checkT T = 0) {k i : Nat} (hk : k < T.length) (k0 : k ≠ 0) (hi : i < T.length) (hr : remB T k i = false) :
    rFindT (subT T (keepO T k T.length)) (pathS T i) = (((keepO T k i).length : Int), true) ∧ ∃ hj : (keepO T k i).length < (keepO T k T.length).length, (keepO T k T.length)[(keepO T k i).length] = i := by
  have hp := check_parts hc
  have hP := par_of_named hp.2.1
  have hro := named_root hp.2.1 (show 0 < T.length by omega)
  have hD := dis_check hc
  have hO := keep_subok hP hk k0
  have hm := keepO_mem.2 ⟨hi, hr⟩
  have hidx := keepO_idx hr T.length hi
  have hj : (keepO T k i).length < (keepO T k T.length).length := by rw [← hidx]; exact List.idxOf_lt_length_iff.2 hm
  have hat : (keepO T k T.length)[(keepO T k i).length] = i := by
    have : (keepO T k T.length)[(keepO T k T.length).idxOf i]'(List.idxOf_lt_length_iff.2 hm) = i := by simp
    simpa [hidx] using this
  refine ⟨?_, hj, hat⟩
  unfold rFindT
  rw [if_neg (by rw [hO.valid hc]; simp)]
  refine foundT_yes (findT_yes (by rw [sub_len]; exact hj) (eqS_path.2 (by rw [sub_path hO hP hro _ hj, hat])) fun q hq => ?_)
  cases e : eqS (pathS (subT T (keepO T k T.length)) q) (pathS T i) with
  | false => rfl
  | true =>
    have e2 := eqS_path.1 e
    rw [sub_path hO hP hro q (by omega)] at e2
    have := path_inj hp.2.1 hD (hO.lt _ (List.getElem_mem (show q < (keepO T k T.length).length by omega))) hi e2
    have h2 := idx_at (asc_nodup hO.asc) q (by omega)
    rw [this, hidx] at h2
    omega
theorem find_gone {T : List NodeT} (hc : checkT T = 0) {k i : Nat} (hk : k < T.length) (k0 : k ≠ 0) (hi : i < T.length) (hr : remB T k i = true) :
    rFindT (subT T (keepO T k T.length)) (pathS T i) = (0, false) := by
  have hp := check_parts hc
  have hP := par_of_named hp.2.1
  have hro := named_root hp.2.1 (show 0 < T.length by omega)
  have hD := dis_check hc
  have hO := keep_subok hP hk k0
  unfold rFindT
  rw [if_neg (by rw [hO.valid hc]; simp)]
  refine foundT_no (findT_no fun q hq => ?_)
  rw [sub_len] at hq
  cases e : eqS (pathS (subT T (keepO T k T.length)) q) (pathS T i) with
  | false => rfl
  | true =>
    have e2 := eqS_path.1 e
    rw [sub_path hO hP hro q hq] at e2
    have hm := List.getElem_mem hq
    have := path_inj hp.2.1 hD (hO.lt _ hm) hi e2
    rw [this] at hm
    rw [(keepO_mem.1 hm).2] at hr; cases hr
theorem keep_node {T : List NodeT} (hc : checkT T = 0) {k i : Nat} (hk : k < T.length) (k0 : k ≠ 0) (hi : i < T.length) (hr : remB T k i = false) :
    ∃ hj : (keepO T k i).length < (subT T (keepO T k T.length)).length, (subT T (keepO T k T.length))[(keepO T k i).length].name = T[i].name ∧ (subT T (keepO T k T.length))[(keepO T k i).length].props = T[i].props := by
  obtain ⟨_, hj, hat⟩ := find_kept hc hk k0 hi hr
  refine ⟨by rw [sub_len]; exact hj, ?_⟩
  rw [sub_at _ hj, hat]
  exact ⟨nameOf_at hi, propsOf_at hi⟩
end Go.Proofs.Ytjfkjnakmmkkiaa
