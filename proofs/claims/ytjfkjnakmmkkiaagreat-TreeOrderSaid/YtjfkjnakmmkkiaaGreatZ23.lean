/- Contracts of package tree: region 2 of changed (printed by gchg.py). | Contracts of package tree: changed, and the closure of Set. | Contracts of package tree: the region of Set that looks a property up (printed by gtse.py). | Contracts of package tree: Set. | What Of and Delete of trees compute, in plain Lean. | Contracts of package tree: Delete. | Some of a valid tree's nodes, closed under parents, are a valid tree again (plain; for Remove). | What Remove keeps, in plain Lean. | Contracts of package tree: Remove. | Contracts of bringupref03: Delete. | Contracts of bringupref03: below, Remove. -/
import Derived.Test.YtjfkjnakmmkkiaaGreatZ20
import Derived.Test.YtjfkjnakmmkkiaaGreatZ22
import Derived.Test.YtjfkjnakmmkkiaaGreatZ1
import Derived.Test.YtjfkjnakmmkkiaaGreatZ9
import Derived.Test.YtjfkjnakmmkkiaaGreatZ7
import Derived.Deep.LoopGhost
import Derived.Deep.DeepCutAuto
import Derived.Deep.CutBlock

namespace Go.Proofs.YtjfkjnakmmkkiaaGreat
open Go.RowKit

noncomputable def chgOps (n : Nat) : Array Oper := (regOps (Tryz.f108.body.getD .skip) n).getD #[]
theorem chg2 : inRow2 .any (chgOps 2) = true := by kernel_rfl
theorem chg2a : apartB (chgOps 2) = true := by kernel_rfl
theorem chg2n : (chgOps 2).size = 14 := by kernel_rfl
def ChgS (Z gT n cap : Nat) (pv : Value) (W w : World) : Prop := Holds w Z #[.slice (some ⟨gT, 0, none⟩) n cap] 25 ∧ Keeps (fun b => pv.ownBlock = some b ∨ b = gT) W w
def ChgX (pv : Value) (W : World) (l : Array Bool) (w : World) : Prop :=
  (l.getD 10 false = false → Keeps (fun _ => False) W w) ∧ (l.getD 13 false = false → Keeps (fun b => pv.ownBlock = some b) W w)
theorem ChgX.keep {pv : Value} {W w w' : World} {l : Array Bool} (h : ChgX pv W l w) (i : Nat) (h1 : Keeps (fun _ => False) W w → Keeps (fun _ => False) W w') (h2 : Keeps (fun b => pv.ownBlock = some b) W w → Keeps (fun b => pv.ownBlock = some b) W w') : ChgX pv W (l.setIfInBounds i true) w' :=
  ⟨fun e => h1 (h.1 (listed_set e)), fun e => h2 (h.2 (listed_set e))⟩
def ChgF (base Z gT n cap at_ fn : Nat) (caps : Array Value) (pv : Value) (ps2 : List PropT) (T2 : List NodeT) (j : Nat) : Value → World → Prop := match j with
  | 0 => fun u _ => u = .pointer (some ⟨Z, 0, none⟩)
  | 1 => fun u _ => u = .slice (some ⟨gT, 0, none⟩) n cap
  | 2 => fun u _ => u = .int .i64 at_
  | 3 => fun u _ => u = .func (.func fn) #[] caps
  | 4 => fun u _ => u = .pointer (some ⟨Z, 0, none⟩)
  | 5 => fun u _ => u = .slice (some ⟨gT, 0, none⟩) n cap
  | 6 => fun u _ => u = .int .i64 at_
  | 7 => fun u _ => u = .pointer (some ⟨gT, at_ * 3, none⟩)
  | 8 => fun u _ => u = .pointer (some ⟨gT, at_ * 3 + 2, none⟩)
  | 9 => fun u _ => u = pv
  | 10 => fun u w => PropRow w base u ps2
  | 11 => fun u _ => u = .pointer (some ⟨gT, at_ * 3, none⟩)
  | 12 => fun u _ => u = .pointer (some ⟨gT, at_ * 3 + 2, none⟩)
  | 13 => fun _ w => TreeRow w base (.slice (some ⟨gT, 0, none⟩) n cap) T2
  | _ => fun _ _ => True
section
variable {base Z gT n cap at_ fn : Nat} {caps : Array Value} {pv : Value} {ps2 : List PropT} {T2 : List NodeT}
theorem ChgS.call {W w w' : World} (h : ChgS Z gT n cap pv W w) (hZ : pv.ownBlock ≠ some Z) (k : Keeps (fun b => pv.ownBlock = some b) w w') : ChgS Z gT n cap pv W w' := ⟨h.1.keeps k hZ, h.2.trans k (fun _ _ e => Or.inl e)⟩
theorem ChgS.put {W w : World} (h : ChgS Z gT n cap pv W w) (hZ : Z ≠ gT) (v : Value) : ChgS Z gT n cap pv W (w.setCell ⟨gT, at_ * 3 + 2, none⟩ v) :=
  ⟨h.1.other _ _ hZ, h.2.trans ((Keeps.refl (fun b => pv.ownBlock = some b ∨ b = gT) w).setCell (p := ⟨gT, at_ * 3 + 2, none⟩) (Or.inr (Or.inr rfl)) v) (fun _ _ e => e)⟩
theorem ChgF.call {w w' : World} {j : Nat} {u : Value} (h : ChgF base Z gT n cap at_ fn caps pv ps2 T2 j u w) (h10 : j ≠ 10) (h13 : j ≠ 13) : ChgF base Z gT n cap at_ fn caps pv ps2 T2 j u w' := by
  unfold ChgF at *
  split at h
  all_goals first
    | exact absurd rfl h10
    | exact absurd rfl h13
    | exact h
theorem ChgF.put {w w' : World} {j : Nat} {u : Value} (h : ChgF base Z gT n cap at_ fn caps pv ps2 T2 j u w) (h13 : j ≠ 13) (h10 : j ≠ 10) : ChgF base Z gT n cap at_ fn caps pv ps2 T2 j u w' := h.call h10 h13
end

set_option maxHeartbeats 4000000 in
set_option maxRecDepth 100000 in
theorem chg_region2 {Q : Exit → Act → World → Prop} (base Z gT n cap at_ fn : Nat) (caps : Array Value) (pv : Value) (ps2 : List PropT) (T2 : List NodeT) (W w : World) (A : Act) (hsz : A.tmps.size = 29) (hat : at_ < n) (hZp : pv.ownBlock ≠ some Z) (hZg : Z ≠ gT) (hpg : pv.ownBlock ≠ some gT) (hnd : ∃ cs, Holds W gT cs 76)
    (a1 : A.tmps.getD 1 undef = .int .i64 at_) (a2 : A.tmps.getD 2 undef = .func (.func fn) #[] caps) (a7 : A.tmps.getD 7 undef = .pointer (some ⟨Z, 0, none⟩))
    (hcell : ∀ wx, Keeps (fun b => pv.ownBlock = some b) W wx → wx.cell? ⟨gT, at_ * 3 + 2, none⟩ = some pv ∧ wx.frozen? ⟨gT, at_ * 3 + 2, none⟩ = false)
    (heg : ∀ args w, (callFunc fn args).run Tryz.prog w = .ok (.enter fn args) w) (hcl : Hid (∀ wx, Keeps (fun _ => False) W wx → Calls Tryz.prog fn (#[pv] ++ caps) wx fun e w' => ∃ rv, e = .returned rv ∧ PropRow w' base rv ps2 ∧ Keeps (fun b => pv.ownBlock = some b) wx w'))
    (hput : ∀ wx rv, PropRow wx base rv ps2 → Keeps (fun b => pv.ownBlock = some b) W wx → TreeRow (wx.setCell ⟨gT, at_ * 3 + 2, none⟩ rv) base (.slice (some ⟨gT, 0, none⟩) n cap) T2)
    (hS : ChgS Z gT n cap pv W w) (hX : Keeps (fun _ => False) W w)
    (hQ : ∀ c w', SameBut (chgOps 2) A c → ChgS Z gT n cap pv W w' → TreeRow w' base (.slice (some ⟨gT, 0, none⟩) n cap) T2 → Q .normal c w') :
    wpAny Tryz.prog .any (chgOps 2) Q (chgOps 2).size (Array.replicate (chgOps 2).size false) A w := by
  refine wpAny_inv2 (fun l c wx => RInv (chgOps 2) A (ChgF base Z gT n cap at_ fn caps pv ps2 T2) (ChgS Z gT n cap pv W) l c wx ∧ ChgX pv W l wx) chg2 ?hend ?hstep _ _ _ _ (by simp) (by simp) ⟨RInv.start hS, fun _ => hX, fun _ => hX.mono (fun _ _ e => e.elim)⟩
  case hend =>
    intro l c wx hI hl
    have h1 : TreeRow wx base (.slice (some ⟨gT, 0, none⟩) n cap) T2 := hI.1.2.2.2 13 (by rw [chg2n]; decide) (hl 13 (by rw [chg2n]; decide))
    exact hQ c wx hI.1.1 hI.1.2.1 h1
  clear hX
  intro l c wx hI i' op ho hl hall K' hK'
  have hi13 : i' < 14 := by rw [← chg2n]; exact (Array.getElem?_eq_some_iff.1 ho).1
  simp only [chgOps, regOps, Tryz.f108, Option.getD_some, reduceIte, Nat.reduceEqDiff] at ho
  have hS := hI.1.2.1
  have hii : (at_ : Int) < n := by omega
  have hii0 : (0 : Int) ≤ at_ := by omega
  have s1 := (hI.1.slot 1 (by kernel_rfl)).trans a1
  have s2 := (hI.1.slot 2 (by kernel_rfl)).trans a2
  have s7 := (hI.1.slot 7 (by kernel_rfl)).trans a7
  simp only [Array.getD_eq_getD_getElem?] at s1 s2 s7
  have hic : i' = 0 ∨ i' = 1 ∨ i' = 2 ∨ i' = 3 ∨ i' = 4 ∨ i' = 5 ∨ i' = 6 ∨ i' = 7 ∨ i' = 8 ∨ i' = 9 ∨ i' = 10 ∨ i' = 11 ∨ i' = 12 ∨ i' = 13 := by omega
  rcases hic with rfl | rfl | rfl | rfl | rfl | rfl | rfl | rfl | rfl | rfl | rfl | rfl | rfl | rfl
  all_goals cases ho
  · go_simp
    exact hK' _ _ ⟨hI.1.stepL chg2a 0 15 rfl (by rw [hsz]; decide) _ _ rfl hall hS (fun _ _ _ h => h) rfl, hI.2.keep 0 (fun h => h) (fun h => h)⟩
  · have e0 : c.tmps.getD 15 undef = .pointer (some ⟨Z, 0, none⟩) := hI.1.fact 0 15 rfl (listed hall 0 (by kernel_rfl))
    simp only [Array.getD_eq_getD_getElem?] at e0
    have hX := hS.1.cell 0
    go_simp
    exact hK' _ _ ⟨hI.1.stepL chg2a 1 16 rfl (by rw [hsz]; decide) _ _ rfl hall hS (fun _ _ _ h => h) rfl, hI.2.keep 1 (fun h => h) (fun h => h)⟩
  · go_simp
    exact hK' _ _ ⟨hI.1.stepL chg2a 2 17 rfl (by rw [hsz]; decide) _ _ rfl hall hS (fun _ _ _ h => h) rfl, hI.2.keep 2 (fun h => h) (fun h => h)⟩
  · go_simp
    exact hK' _ _ ⟨hI.1.stepL chg2a 3 18 rfl (by rw [hsz]; decide) _ _ rfl hall hS (fun _ _ _ h => h) rfl, hI.2.keep 3 (fun h => h) (fun h => h)⟩
  · go_simp
    exact hK' _ _ ⟨hI.1.stepL chg2a 4 19 rfl (by rw [hsz]; decide) _ _ rfl hall hS (fun _ _ _ h => h) rfl, hI.2.keep 4 (fun h => h) (fun h => h)⟩
  · have e4 : c.tmps.getD 19 undef = .pointer (some ⟨Z, 0, none⟩) := hI.1.fact 4 19 rfl (listed hall 4 (by kernel_rfl))
    simp only [Array.getD_eq_getD_getElem?] at e4
    have hX := hS.1.cell 0
    go_simp
    exact hK' _ _ ⟨hI.1.stepL chg2a 5 20 rfl (by rw [hsz]; decide) _ _ rfl hall hS (fun _ _ _ h => h) rfl, hI.2.keep 5 (fun h => h) (fun h => h)⟩
  · go_simp
    exact hK' _ _ ⟨hI.1.stepL chg2a 6 21 rfl (by rw [hsz]; decide) _ _ rfl hall hS (fun _ _ _ h => h) rfl, hI.2.keep 6 (fun h => h) (fun h => h)⟩
  · have e5 : c.tmps.getD 20 undef = .slice (some ⟨gT, 0, none⟩) n cap := hI.1.fact 5 20 rfl (listed hall 5 (by kernel_rfl))
    simp only [Array.getD_eq_getD_getElem?] at e5
    have e6 : c.tmps.getD 21 undef = .int .i64 at_ := hI.1.fact 6 21 rfl (listed hall 6 (by kernel_rfl))
    simp only [Array.getD_eq_getD_getElem?] at e6
    go_simp
    exact hK' _ _ ⟨hI.1.stepL chg2a 7 22 rfl (by rw [hsz]; decide) _ _ rfl hall hS (fun _ _ _ h => h) rfl, hI.2.keep 7 (fun h => h) (fun h => h)⟩
  · have e7 : c.tmps.getD 22 undef = .pointer (some ⟨gT, at_ * 3, none⟩) := hI.1.fact 7 22 rfl (listed hall 7 (by kernel_rfl))
    simp only [Array.getD_eq_getD_getElem?] at e7
    go_simp
    exact hK' _ _ ⟨hI.1.stepL chg2a 8 23 rfl (by rw [hsz]; decide) _ _ rfl hall hS (fun _ _ _ h => h) rfl, hI.2.keep 8 (fun h => h) (fun h => h)⟩
  · have e8 : c.tmps.getD 23 undef = .pointer (some ⟨gT, at_ * 3 + 2, none⟩) := hI.1.fact 8 23 rfl (listed hall 8 (by kernel_rfl))
    simp only [Array.getD_eq_getD_getElem?] at e8
    have u10 := hI.1.2.2.1.2.unlisted hl (j := 10) (by kernel_rfl)
    have hX := (hcell wx ((hI.2.1 u10).mono (fun _ _ e => e.elim))).1
    go_simp
    exact hK' _ _ ⟨hI.1.stepL chg2a 9 24 rfl (by rw [hsz]; decide) _ _ rfl hall hS (fun _ _ _ h => h) rfl, hI.2.keep 9 (fun h => h) (fun h => h)⟩
  · have e3 : c.tmps.getD 18 undef = .func (.func fn) #[] caps := hI.1.fact 3 18 rfl (listed hall 3 (by kernel_rfl))
    simp only [Array.getD_eq_getD_getElem?] at e3
    have e9 : c.tmps.getD 24 undef = pv := hI.1.fact 9 24 rfl (listed hall 9 (by kernel_rfl))
    simp only [Array.getD_eq_getD_getElem?] at e9
    have u13 := hI.1.2.2.1.2.unlisted hl (j := 13) (by kernel_rfl)
    have kq := hI.2.1 hl
    go_simp
    refine (hcl.out wx kq).mono ?_
    rintro e w2 ⟨rv, rfl, hr, k2⟩
    go_simp
    exact hK' _ _ ⟨hI.1.stepL chg2a 10 25 rfl (by rw [hsz]; decide) _ _ rfl hall (hS.call hZp k2) (fun j hj _ h => h.call (yes_no hj hl) (yes_no hj u13)) hr, ⟨(fun h => absurd rfl (listed_at h (by rw [hI.1.2.2.1.1, chg2n]; decide))), fun h => (kq.mono (fun _ _ e => e.elim)).trans k2 (fun _ _ e => e)⟩⟩
  · have e1 : c.tmps.getD 16 undef = .slice (some ⟨gT, 0, none⟩) n cap := hI.1.fact 1 16 rfl (listed hall 1 (by kernel_rfl))
    simp only [Array.getD_eq_getD_getElem?] at e1
    have e2 : c.tmps.getD 17 undef = .int .i64 at_ := hI.1.fact 2 17 rfl (listed hall 2 (by kernel_rfl))
    simp only [Array.getD_eq_getD_getElem?] at e2
    go_simp
    exact hK' _ _ ⟨hI.1.stepL chg2a 11 26 rfl (by rw [hsz]; decide) _ _ rfl hall hS (fun _ _ _ h => h) rfl, hI.2.keep 11 (fun h => h) (fun h => h)⟩
  · have e11 : c.tmps.getD 26 undef = .pointer (some ⟨gT, at_ * 3, none⟩) := hI.1.fact 11 26 rfl (listed hall 11 (by kernel_rfl))
    simp only [Array.getD_eq_getD_getElem?] at e11
    go_simp
    exact hK' _ _ ⟨hI.1.stepL chg2a 12 27 rfl (by rw [hsz]; decide) _ _ rfl hall hS (fun _ _ _ h => h) rfl, hI.2.keep 12 (fun h => h) (fun h => h)⟩
  · have e12 : c.tmps.getD 27 undef = .pointer (some ⟨gT, at_ * 3 + 2, none⟩) := hI.1.fact 12 27 rfl (listed hall 12 (by kernel_rfl))
    simp only [Array.getD_eq_getD_getElem?] at e12
    have hr : PropRow wx base (c.tmps.getD 25 undef) ps2 := hI.1.fact 10 25 rfl (listed hall 10 (by kernel_rfl))
    generalize hc25 : c.tmps.getD 25 undef = rv at hr
    obtain ⟨a2, c2, hrv⟩ := row_slice hr.1
    subst hrv
    simp only [Array.getD_eq_getD_getElem?] at hc25
    have kq := hI.2.2 hl
    obtain ⟨n0, n1⟩ := hcell wx kq
    obtain ⟨ncs, hH⟩ := hnd
    have hH0 := hH.keeps kq hpg
    go_simp
    exact hK' _ _ ⟨hI.1.stepNL 13 rfl _ rfl hall (hS.put hZg _) (fun j hj _ h => by
      by_cases e : j = 10
      · subst e; exact PropRow.set h hH0 (by decide) _ _
      · exact h.put (yes_no hj hl) e) (hput wx _ hr kq), ⟨(fun h => absurd ((listed_set h).symm.trans (listed hall 10 (by kernel_rfl))) (by decide)), (fun h => absurd rfl (listed_at h (by rw [hI.1.2.2.1.1, chg2n]; decide)))⟩⟩
end Go.Proofs.YtjfkjnakmmkkiaaGreat

namespace Go.Proofs.YtjfkjnakmmkkiaaGreat
open Go.RowKit

theorem idx_range (n i : Nat) (h : i < n) : (List.range n).idxOf i = i := by
  induction n with
  | zero => omega
  | succ n ih =>
    rw [List.range_succ]
    by_cases e : i < n
    · rw [List.idxOf_append, if_pos (by simpa using e), ih e]
    · have : i = n := by omega
      subst this
      rw [List.idxOf_append, if_neg (by simp)]
      simp
theorem sorted_self {T : List NodeT} (hc : checkT T = 0) (h0 : 0 < T.length) : sortedT T = T := by
  have hp := check_parts hc
  have hw := walked_ord hp.2.1 h0
  rw [hp.2.2.1] at hw
  have ho : ordT T = List.range T.length := by
    have := hw.symm
    rw [Bool.and_eq_true] at this
    exact of_decide_eq_true this.1
  have hpar := par_of_named hp.2.1
  have hr := named_root hp.2.1 h0
  unfold sortedT
  rw [ho]
  apply List.ext_getElem
  · simp
  · intro i h1 h2
    have hi : i < T.length := h2
    rw [List.getElem_map, List.getElem_range]
    unfold moveT
    rw [nameOf_at hi, propsOf_at hi]
    by_cases e : i = 0
    · subst e
      rw [parOf_at hi]; rfl
    · have e0 : 0 < i := by omega
      obtain ⟨hlt, hpe⟩ := parN_lt hpar e0 hi
      rw [if_neg e, ho, idx_range _ _ (by omega), hpe, parOf_at hi]
theorem propCells_setv : ∀ (ps : List PropT) (k : Nat) (hk : k < ps.length) (x : ByteArray), propCells (ps.set k ⟨ps[k].name, x⟩) = (propCells ps).set (k * 2 + 1) (.string x)
  | p :: ps, 0, _, _ => rfl
  | p :: ps, k + 1, hk, x => by
    have := propCells_setv ps k (by simpa using hk) x
    rw [show (k + 1) * 2 + 1 = k * 2 + 1 + 1 + 1 from by omega]
    simp only [List.set_cons_succ, propCells, List.getElem_cons_succ]
    rw [this]
/-- The closure of Set. -/
theorem tree_Set1 (base bo bk bn bv : Nat) (v : Value) (ps : List PropT) (name value : ByteArray) (w : World) (hr : PropRow w base v ps) (hl : ps.length ≤ 1000) (hp : PropOk ⟨name, value⟩) (hbase : base ≤ w.heap.size)
    (ho : Holds w bo #[.bool (hasT ps name)] 4) (hk : Holds w bk #[.int .i64 (lowT ps name)] 3) (hn : Holds w bn #[.string name] 9) (hv : Holds w bv #[.string value] 9) :
    Calls Tryz.prog 109 #[v, .pointer (some ⟨bo, 0, none⟩), .pointer (some ⟨bk, 0, none⟩), .pointer (some ⟨bn, 0, none⟩), .pointer (some ⟨bv, 0, none⟩)] w fun e w' => ∃ v', e = .returned v' ∧ PropRow w' base v' (putT ps ⟨name, value⟩) ∧ Keeps (fun b => v.ownBlock = some b) w w' := by
  have x0 := ho.cell 0
  have x1 := hk.cell 0
  have x2 := hn.cell 0
  have x3 := hv.cell 0
  have hle := low_le ps name
  cases hh : hasT ps name with
  | false =>
    rw [hh] at x0
    have hpe := Lib.hid (show putT ps ⟨name, value⟩ = insP ps (lowT ps name) ⟨name, value⟩ from by unfold putT insP restT; simp only [hh]; rfl)
    have hb1 : Below w.heap.size w (w.alloc (.cells #[.string name, .string value] 83)) := (Below.refl _ _).alloc (Nat.le_refl _) _
    have hins := Lib.hid (props_Insert base w.heap.size v ps (lowT ps name) ⟨name, value⟩ _ (hr.new hb1) hle hl (Holds.new w #[.string name, .string value] 83) (fun e => Nat.lt_irrefl _ (hr.1.lt _ e).2) hp (by simp; omega))
    have HR := Lib.hid hr
    obtain ⟨va, vc, rfl⟩ := row_slice hr.1
    clear hr ho hk hn hv hh
    generalize lowT ps name = k at *
    go_enter Tryz.func109, Tryz.ntmps109
    go_wp2_with fail
    refine hins.out.mono ?_
    rintro e w2 ⟨v2, rfl, hr2, k2⟩
    go_wp2_with fail
    go_ret
    exact ⟨_, rfl, by rw [hpe.out]; exact hr2, (Keeps.of_fresh hb1 (fun b => (Value.slice va ps.length vc).ownBlock = some b)).trans k2 (fun _ _ e => e)⟩
  | true =>
    rw [hh] at x0
    have hlt : lowT ps name < ps.length := by
      by_cases e : lowT ps name < ps.length
      · exact e
      · rw [has_none (by omega)] at hh; cases hh
    have hnm : ps[lowT ps name].name = name := by
      rw [has_at hlt] at hh
      exact (eqS_iff _ _).1 hh
    have hpe : putT ps ⟨name, value⟩ = ps.set (lowT ps name) ⟨ps[lowT ps name].name, value⟩ := by
      unfold putT restT
      simp only [hh, if_true]
      rw [List.set_eq_take_append_cons_drop, if_pos hlt, hnm]
    obtain ⟨g, cap', ev, -, hg⟩ := hr.1.form (by omega)
    subst ev
    obtain ⟨_, cur, hH⟩ := owned_holds hr.1 (g := g) rfl
    have hlen := propCells_len ps
    have c0 : w.cell? ⟨g, lowT ps name * 2 + 1, none⟩ = some ((propCells ps)[lowT ps name * 2 + 1]'(by omega)) := (hr.1.cellAt _ (by omega)).trans (List.getElem?_eq_getElem (by omega))
    have cf := hH.free (lowT ps name * 2 + 1)
    obtain ⟨s1, s2⟩ := hr.1.stored (lowT ps name * 2 + 1) (.string value)
    have HF := Lib.hid (show PropRow (w.setCell ⟨g, lowT ps name * 2 + 1, none⟩ (.string value)) base (.slice (some ⟨g, 0, none⟩) ps.length cap') (putT ps ⟨name, value⟩) from by
      rw [hpe]
      refine ⟨?_, fun q hq => ?_⟩
      · rw [propCells_setv ps _ hlt, List.length_set]; exact s1
      · rcases List.mem_or_eq_of_mem_set hq with h | h
        · exact hr.2 q h
        · rw [h, hnm]; exact hp)
    have hk2 : ((lowT ps name : Nat) : Int) < (ps.length : Int) := by omega
    have hK := Lib.hid (show Keeps (fun b => (Value.slice (some ⟨g, 0, none⟩) ps.length cap').ownBlock = some b) w (w.setCell ⟨g, lowT ps name * 2 + 1, none⟩ (.string value)) from (Keeps.refl (fun b => (Value.slice (some ⟨g, 0, none⟩) ps.length cap').ownBlock = some b) w).setCell (p := ⟨g, lowT ps name * 2 + 1, none⟩) (Or.inr (show some g = some g from rfl)) _)
    generalize (propCells ps)[lowT ps name * 2 + 1]'(by omega) = ov at c0
    clear hr ho hk hn hv hh hpe s1 s2 hH hnm hlen
    generalize putT ps ⟨name, value⟩ = qs at HF ⊢
    generalize lowT ps name = k at *
    go_enter Tryz.func109, Tryz.ntmps109
    go_wp2_with fail
    go_ret
    exact ⟨_, rfl, HF.out, hK.out⟩

set_option maxRecDepth 100000 in
set_option maxHeartbeats 4000000 in
theorem tree_changed (R : Nat → Prop) (v : Value) (T : List NodeT) (at_ fn : Nat) (caps : Array Value) (qs : List PropT) (w : World) (hT : NodesIn R w v T) (hc : checkT T = 0) (hat : at_ < T.length) (heg : ∀ args w, (callFunc fn args).run Tryz.prog w = .ok (.enter fn args) w)
    (hcl : ∀ base u wx, Below w.heap.size w wx → w.heap.size ≤ base → base ≤ wx.heap.size → PropRow wx base u T[at_].props → Calls Tryz.prog fn (#[u] ++ caps) wx fun e w' => ∃ v', e = .returned v' ∧ PropRow w' base v' qs ∧ Keeps (fun b => u.ownBlock = some b) wx w') :
    Calls Tryz.prog 108 #[.agg #[v], .int .i64 at_, .func (.func fn) #[] caps] w fun e w' => ∃ v', e = .returned (.agg #[v']) ∧ TreeRow w' w.heap.size v' (T.set at_ ⟨T[at_].parent, T[at_].name, qs⟩) ∧ Below w.heap.size w w' := by
  obtain ⟨a, cap, rfl, hc1, hc2⟩ := hT.shape
  have h0 : 0 < T.length := by omega
  have hl2 := (limits_len (check_limits hc)).2
  have hp := check_parts hc
  have hS : Shape T := ⟨h0, par_of_named hp.2.1, named_root hp.2.1 h0⟩
  have hwt := Lib.hid (fun wx hx => walk_TreeS R (.slice a T.length cap) T wx hx hS (dis_check hc) (by omega) (check_props hc))
  have hss := sorted_self hc h0
  have HT := Lib.hid hT
  have HCL := Lib.hid hcl
  have hb0 : Below w.heap.size w ((w.alloc (.cells #[.slice a T.length cap] 25)).alloc (.cells #[.slice none 0 0] 25)) := ((Below.refl _ _).alloc (Nat.le_refl _) _).alloc (by simp) _
  have hRB := Holds.newAt (w := w.alloc (.cells #[.slice a T.length cap] 25)) (B := w.heap.size + 1) (by simp) #[.slice none 0 0] 25
  have hTB := (Holds.new w #[.slice a T.length cap] 25).alloc (.cells #[.slice none 0 0] 25)
  have hNN := HT.out.new hb0
  clear hT hcl hp hS hc
  go_enter Tryz.func108, Tryz.ntmps108
  go_wp2_with fail
  refine (hwt.out _ (by exact hNN)).mono ?_
  rintro e w1 ⟨tv, gP, l, rfl, hr, hgP, hPP, hll, -, hb1⟩
  rw [hss] at hr
  obtain ⟨gT, tc, rfl⟩ : ∃ gT tc, tv = .slice (some ⟨gT, 0, none⟩) T.length tc := by
    obtain ⟨_, _, g2, _⟩ := hr.row
    obtain ⟨g, c, e, _⟩ := g2.form h0
    exact ⟨g, c, e⟩
  have hgl1 : gT < w1.heap.size := tree_own_lt hr.row rfl
  have hbz : Below w1.heap.size w1 (w1.alloc (.cells #[.slice (some ⟨gT, 0, none⟩) T.length tc] 25)) := (Below.refl _ _).alloc (Nat.le_refl _) _
  have hr1 := hr.new hbz
  have hZ := Holds.new w1 #[.slice (some ⟨gT, 0, none⟩) T.length tc] 25
  obtain ⟨pv, p0, hpr, hpg, hgl, hcell, hput⟩ := hr1.put at_ hat
  have hnd : ∃ cs, Holds (w1.alloc (.cells #[.slice (some ⟨gT, 0, none⟩) T.length tc] 25)) gT cs 76 := (tree_own_holds hr1.row rfl).2
  have hZp : pv.ownBlock ≠ some w1.heap.size := fun e => owns_ne_holds hpr.1 hZ (by decide) e
  have hb2 : Below w.heap.size w w1 := hb0.trans (hb1.mono (by simp; omega))
  have hb3 := hb2.trans (hbz.mono hb2.size)
  have hRB1 := ((hRB.keeps (Keeps.of_fresh hb1 (fun _ => False)) (fun e => e)).keeps (Keeps.of_fresh hbz (fun _ => False)) (fun e => e))
  have hbl : w.heap.size ≤ ((w.alloc (.cells #[.slice a T.length cap] 25)).alloc (.cells #[.slice none 0 0] 25)).heap.size := by simp; omega
  have hbw : ((w.alloc (.cells #[.slice a T.length cap] 25)).alloc (.cells #[.slice none 0 0] 25)).heap.size ≤ w1.heap.size := hb1.size
  generalize ((w.alloc (.cells #[.slice a T.length cap] 25)).alloc (.cells #[.slice none 0 0] 25)).heap.size = b2 at *
  have hcl2 : Hid (∀ wx, Keeps (fun _ => False) (w1.alloc (.cells #[.slice (some ⟨gT, 0, none⟩) T.length tc] 25)) wx → Calls Tryz.prog fn (#[pv] ++ caps) wx fun e w' => ∃ rv, e = .returned rv ∧ PropRow w' b2 rv qs ∧ Keeps (fun b => pv.ownBlock = some b) wx w') :=
    Lib.hid (fun wx k => HCL.out b2 pv wx (hb3.trans (k.below hb3.size (fun _ _ e => e))) hbl (Nat.le_trans hbw (Nat.le_trans (by simp) k.size)) ⟨ownsRow_keeps hpr.1 k (fun _ _ e => e), hpr.2⟩)
  have hown : ∀ b, pv.ownBlock = some b → w.heap.size ≤ b ∧ ∃ cur, Holds (w1.alloc (.cells #[.slice (some ⟨gT, 0, none⟩) T.length tc] 25)) b cur 83 := fun b e => by
    obtain ⟨q1, q2⟩ := owned_holds hpr.1 e
    exact ⟨by omega, q2⟩
  have hgb : w.heap.size ≤ gT := by have := (tree_own_holds hr1.row (g := gT) rfl).1; omega
  have hZ1 : w1.heap.size ≠ gT := by omega
  have hRo : pv.ownBlock ≠ some (w.heap.size + 1) := fun e => by
    obtain ⟨_, cur, q⟩ := hown _ e
    exact holds_ne q hRB1 (by decide) rfl
  have hRg : w.heap.size + 1 ≠ gT := fun e => by
    obtain ⟨cs, q⟩ := hnd
    exact holds_ne hRB1 q (by decide) e
  clear hr hNN hPP hb0 hRB hTB HCL hll hr1 hb2 hpr hwt
  go_wp2_with fail
  generalize hWe : w1.alloc (.cells #[.slice (some ⟨gT, 0, none⟩) T.length tc] 25) = W at *
  refine wp_region_any (by kernel_rfl) ?_
  refine wpAny_ops (ops' := chgOps 2) (by kernel_rfl) ?_
  refine chg_region2 b2 w1.heap.size gT T.length tc at_ fn caps pv qs (T.set at_ ⟨T[at_].parent, T[at_].name, qs⟩) W _ _ rfl hat hZp hZ1 hpg hnd rfl rfl rfl hcell heg hcl2 (fun wx rv h k => hput wx rv qs h k) ⟨hZ, (Keeps.refl _ _).drew⟩ ((Keeps.refl _ _).drew) ?_
  intro c w2 hsb hS2 hT2
  obtain ⟨y15, y16, y17, y18, y19, y20, y21, y22, y23, y24, y25, y26, y27, hc⟩ := hsb.ex [15, 16, 17, 18, 19, 20, 21, 22, 23, 24, 25, 26, 27] (by kernel_rfl)
  subst hc
  simp only [List.setIfInBounds_toArray, List.set_cons_zero, List.set_cons_succ]
  have hk2 := hS2.2
  have hRB2 := hRB1.keeps hk2 (fun e => by rcases e with e | e; exact hRo e; exact hRg e)
  have hb4 : Below w.heap.size w w2 := hb3.trans (hk2.below hb3.size (fun i hi e => by
    rcases e with e | e
    · have := (hown i e).1; omega
    · omega))
  have z0 := hS2.1.cell 0
  have r0 := hRB2.cell 0
  have rf := hRB2.free 0
  have hfin := (hT2.base hbl).set hRB2 (by decide) (by decide) 0 (.slice (some ⟨gT, 0, none⟩) T.length tc)
  have q0 := (hRB2.set 0 (.slice (some ⟨gT, 0, none⟩) T.length tc)).cell 0
  have hb5 := hb4.setCell (p := ⟨w.heap.size + 1, 0, none⟩) (by simp) (.slice (some ⟨gT, 0, none⟩) T.length tc)
  have HF := Lib.hid (And.intro hfin hb5)
  clear hfin hb5 hS2 hT2 hk2 hRB2 hRB1 hZ hb3 hb4 hcl2 hcell hput hnd hown hsb HT
  go_wp2_with fail
  exact bodyPost_ret (v := .agg #[.slice (some ⟨gT, 0, none⟩) T.length tc]) (by simp [results, Tryz.results108, go_sem, q0]) rfl ⟨_, rfl, HF.out⟩
end Go.Proofs.YtjfkjnakmmkkiaaGreat

namespace Go.Proofs.YtjfkjnakmmkkiaaGreat
open Go.RowKit

noncomputable def setOps (n : Nat) : Array Oper := (regOps (Tryz.f53.body.getD .skip) n).getD #[]
theorem setR : inRow2 .any (setOps 6) = true := by kernel_rfl
theorem setRa : apartB (setOps 6) = true := by kernel_rfl
theorem setRn : (setOps 6).size = 14 := by kernel_rfl
def SetF (X g o n cap at_ _ : Nat) (nd : NodeT) (pa : Option Addr) (pc : Nat) (name : ByteArray) (Nk No : Nat) (j : Nat) : Value → World → Prop := match j with
  | 0 => fun u _ => u = .pointer (some ⟨X, 0, none⟩)
  | 1 => fun u _ => u = .slice (some ⟨g, o, none⟩) n cap
  | 2 => fun u _ => u = .int .i64 at_
  | 3 => fun u _ => u = .pointer (some ⟨g, o + at_ * 3, none⟩)
  | 4 => fun u _ => u = .agg #[.int .i64 nd.parent, .string nd.name, .slice pa nd.props.length pc]
  | 5 => fun u _ => u = .string name
  | 6 => fun u _ => u = .tuple #[.int .i64 (lowT nd.props name), .bool (hasT nd.props name)]
  | 7 => fun u _ => u = .tuple #[.int .i64 (lowT nd.props name), .bool (hasT nd.props name)]
  | 8 => fun u _ => u = .int .i64 (lowT nd.props name)
  | 9 => fun u _ => u = .bool (hasT nd.props name)
  | 10 => fun u w => u = .pointer (some ⟨Nk, 0, none⟩) ∧ ∃ x, Holds w Nk #[x] 3
  | 11 => fun u w => u = .pointer (some ⟨No, 0, none⟩) ∧ ∃ x, Holds w No #[x] 4
  | 12 => fun _ w => Holds w Nk #[.int .i64 (lowT nd.props name)] 3
  | 13 => fun _ w => Holds w No #[.bool (hasT nd.props name)] 4
  | _ => fun _ _ => True
section
variable {X g o n cap at_ bn : Nat} {nd : NodeT} {pa : Option Addr} {pc : Nat} {name : ByteArray} {Nk No : Nat} {w w' : World} {j : Nat} {u : Value}
theorem SetF.new (h : SetF X g o n cap at_ bn nd pa pc name Nk No j u w) (k : Below w.heap.size w w') : SetF X g o n cap at_ bn nd pa pc name Nk No j u w' := by
  unfold SetF at *
  have kk := Keeps.of_fresh k (fun _ => False)
  split at h
  all_goals first
    | exact h
    | exact ⟨h.1, h.2.choose, h.2.choose_spec.keeps kk (fun e => e)⟩
    | exact Holds.keeps h kk (fun e => e)
theorem SetF.ghostNk {N2 : Nat} (h : SetF X g o n cap at_ bn nd pa pc name Nk No j u w) (h10 : j ≠ 10) (h12 : j ≠ 12) : SetF X g o n cap at_ bn nd pa pc name N2 No j u w := by
  unfold SetF at *
  split at h
  all_goals first
    | exact absurd rfl h10
    | exact absurd rfl h12
    | exact h
theorem SetF.ghostNo {N2 : Nat} (h : SetF X g o n cap at_ bn nd pa pc name Nk No j u w) (h11 : j ≠ 11) (h13 : j ≠ 13) : SetF X g o n cap at_ bn nd pa pc name Nk N2 j u w := by
  unfold SetF at *
  split at h
  all_goals first
    | exact absurd rfl h11
    | exact absurd rfl h13
    | exact h
theorem SetF.putNk {x : Value} (h : SetF X g o n cap at_ bn nd pa pc name Nk No j u w) (hH : Holds w Nk #[x] 3) : SetF X g o n cap at_ bn nd pa pc name Nk No j u (w.setCell ⟨Nk, 0, none⟩ (.int .i64 (lowT nd.props name))) := by
  unfold SetF at *
  split at h
  all_goals first
    | exact h
    | exact ⟨h.1, _, hH.set 0 _⟩
    | exact hH.set 0 _
    | exact ⟨h.1, h.2.choose, h.2.choose_spec.other _ _ (holds_ne h.2.choose_spec hH (by decide))⟩
    | exact Holds.other h _ _ (holds_ne h hH (by decide))
theorem SetF.putNo {x : Value} (h : SetF X g o n cap at_ bn nd pa pc name Nk No j u w) (hH : Holds w No #[x] 4) : SetF X g o n cap at_ bn nd pa pc name Nk No j u (w.setCell ⟨No, 0, none⟩ (.bool (hasT nd.props name))) := by
  unfold SetF at *
  split at h
  all_goals first
    | exact h
    | exact ⟨h.1, _, hH.set 0 _⟩
    | exact hH.set 0 _
    | exact ⟨h.1, h.2.choose, h.2.choose_spec.other _ _ (holds_ne h.2.choose_spec hH (by decide))⟩
    | exact Holds.other h _ _ (holds_ne h hH (by decide))
end

set_option maxHeartbeats 4000000 in
set_option maxRecDepth 100000 in
theorem set_region {Q : Exit → Act → World → Prop} (X g o n cap at_ bn : Nat) (nd : NodeT) (pa : Option Addr) (pc : Nat) (name : ByteArray) (W w : World) (A : Act) (hsz : A.tmps.size = 60) (hat : at_ < n) (hgl : g < W.heap.size)
    (hXW : Holds W X #[.slice (some ⟨g, o, none⟩) n cap] 25) (hnW : Holds W bn #[.string name] 9)
    (q0 : W.cell? ⟨g, o + at_ * 3, none⟩ = some (.int .i64 nd.parent)) (q1 : W.cell? ⟨g, o + at_ * 3 + 1, none⟩ = some (.string nd.name)) (q2 : W.cell? ⟨g, o + at_ * 3 + 2, none⟩ = some (.slice pa nd.props.length pc))
    (ax : A.tmps.getD 4 undef = .pointer (some ⟨X, 0, none⟩)) (aa : A.tmps.getD 10 undef = .int .i64 at_) (an : A.tmps.getD 6 undef = .pointer (some ⟨bn, 0, none⟩))
    (hpr : Hid (∀ wx, Below W.heap.size W wx → Calls Tryz.prog 99 #[.agg #[.int .i64 nd.parent, .string nd.name, .slice pa nd.props.length pc], .string name] wx fun e w' => e = .returned (.tuple #[.int .i64 (lowT nd.props name), .bool (hasT nd.props name)]) ∧ Below wx.heap.size wx w'))
    (hS : Below W.heap.size W w)
    (hQ : ∀ c w' Nk No, SameBut (setOps 6) A c → Below W.heap.size W w' → c.tmps.getD 12 undef = .pointer (some ⟨Nk, 0, none⟩) → Holds w' Nk #[.int .i64 (lowT nd.props name)] 3 → c.tmps.getD 13 undef = .pointer (some ⟨No, 0, none⟩) → Holds w' No #[.bool (hasT nd.props name)] 4 → W.heap.size ≤ Nk → W.heap.size ≤ No → Q .normal c w') :
    wpAny Tryz.prog .any (setOps 6) Q (setOps 6).size (Array.replicate (setOps 6).size false) A w := by
  refine wpAny_inv2 (fun l c wx => ∃ Nk No, RInv (setOps 6) A (SetF X g o n cap at_ bn nd pa pc name Nk No) (fun wx => Below W.heap.size W wx) l c wx ∧ W.heap.size ≤ Nk ∧ W.heap.size ≤ No) setR ?hend ?hstep _ _ _ _ (by simp) (by simp) ⟨W.heap.size, W.heap.size, RInv.start hS, Nat.le_refl _, Nat.le_refl _⟩
  case hend =>
    rintro l c wx ⟨Nk, No, hI, hNk, hNo⟩ hl
    have hh : ∀ k, k < 14 → l.getD k false = true := fun k hk => hl k (by rw [setRn]; exact hk)
    obtain ⟨e10, _⟩ : c.tmps.getD 12 undef = .pointer (some ⟨Nk, 0, none⟩) ∧ ∃ x, Holds wx Nk #[x] 3 := hI.fact 10 12 rfl (hh 10 (by decide))
    obtain ⟨e11, _⟩ : c.tmps.getD 13 undef = .pointer (some ⟨No, 0, none⟩) ∧ ∃ x, Holds wx No #[x] 4 := hI.fact 11 13 rfl (hh 11 (by decide))
    have h12 : Holds wx Nk #[.int .i64 (lowT nd.props name)] 3 := hI.2.2.2 12 (by rw [setRn]; decide) (hh 12 (by decide))
    have h13 : Holds wx No #[.bool (hasT nd.props name)] 4 := hI.2.2.2 13 (by rw [setRn]; decide) (hh 13 (by decide))
    exact hQ c wx Nk No hI.1 hI.2.1 e10 h12 e11 h13 hNk hNo
  intro l c wx hI i' op ho hl hall K' hK'
  obtain ⟨Nk, No, hI, hNk, hNo⟩ := hI
  have hi13 : i' < 14 := by rw [← setRn]; exact (Array.getElem?_eq_some_iff.1 ho).1
  simp only [setOps, regOps, Tryz.f53, Option.getD_some, reduceIte, Nat.reduceEqDiff] at ho
  have hS := hI.2.1
  have hii : (at_ : Int) < n := by omega
  have hii0 : (0 : Int) ≤ at_ := by omega
  have sx := (hI.slot 4 (by kernel_rfl)).trans ax
  have sa := (hI.slot 10 (by kernel_rfl)).trans aa
  have sn := (hI.slot 6 (by kernel_rfl)).trans an
  simp only [Array.getD_eq_getD_getElem?] at sx sa sn
  have hic : i' = 0 ∨ i' = 1 ∨ i' = 2 ∨ i' = 3 ∨ i' = 4 ∨ i' = 5 ∨ i' = 6 ∨ i' = 7 ∨ i' = 8 ∨ i' = 9 ∨ i' = 10 ∨ i' = 11 ∨ i' = 12 ∨ i' = 13 := by omega
  rcases hic with rfl | rfl | rfl | rfl | rfl | rfl | rfl | rfl | rfl | rfl | rfl | rfl | rfl | rfl
  all_goals cases ho
  · go_simp
    exact hK' _ _ ⟨Nk, No, hI.step setRa 0 29 rfl (by rw [hsz]; decide) _ _ rfl hall hS (fun _ _ h => h) rfl, hNk, hNo⟩
  · have e0 : c.tmps.getD 29 undef = .pointer (some ⟨X, 0, none⟩) := hI.fact 0 29 rfl (listed hall 0 (by kernel_rfl))
    simp only [Array.getD_eq_getD_getElem?] at e0
    have hX := (hXW.keeps (Keeps.of_fresh hS (fun _ => False)) (fun e => e)).cell 0
    go_simp
    exact hK' _ _ ⟨Nk, No, hI.step setRa 1 30 rfl (by rw [hsz]; decide) _ _ rfl hall hS (fun _ _ h => h) rfl, hNk, hNo⟩
  · go_simp
    exact hK' _ _ ⟨Nk, No, hI.step setRa 2 31 rfl (by rw [hsz]; decide) _ _ rfl hall hS (fun _ _ h => h) rfl, hNk, hNo⟩
  · have e1 : c.tmps.getD 30 undef = .slice (some ⟨g, o, none⟩) n cap := hI.fact 1 30 rfl (listed hall 1 (by kernel_rfl))
    simp only [Array.getD_eq_getD_getElem?] at e1
    have e2 : c.tmps.getD 31 undef = .int .i64 at_ := hI.fact 2 31 rfl (listed hall 2 (by kernel_rfl))
    simp only [Array.getD_eq_getD_getElem?] at e2
    go_simp
    exact hK' _ _ ⟨Nk, No, hI.step setRa 3 32 rfl (by rw [hsz]; decide) _ _ rfl hall hS (fun _ _ h => h) rfl, hNk, hNo⟩
  · have e3 : c.tmps.getD 32 undef = .pointer (some ⟨g, o + at_ * 3, none⟩) := hI.fact 3 32 rfl (listed hall 3 (by kernel_rfl))
    simp only [Array.getD_eq_getD_getElem?] at e3
    have c0 := (hS.cell (p := ⟨g, o + at_ * 3, none⟩) hgl).trans q0
    have c1 := (hS.cell (p := ⟨g, o + at_ * 3 + 1, none⟩) hgl).trans q1
    have c2 := (hS.cell (p := ⟨g, o + at_ * 3 + 2, none⟩) hgl).trans q2
    go_simp
    exact hK' _ _ ⟨Nk, No, hI.step setRa 4 33 rfl (by rw [hsz]; decide) _ _ rfl hall hS (fun _ _ h => h) rfl, hNk, hNo⟩
  · have hX := (hnW.keeps (Keeps.of_fresh hS (fun _ => False)) (fun e => e)).cell 0
    go_simp
    exact hK' _ _ ⟨Nk, No, hI.step setRa 5 34 rfl (by rw [hsz]; decide) _ _ rfl hall hS (fun _ _ h => h) rfl, hNk, hNo⟩
  · have e4 : c.tmps.getD 33 undef = .agg #[.int .i64 nd.parent, .string nd.name, .slice pa nd.props.length pc] := hI.fact 4 33 rfl (listed hall 4 (by kernel_rfl))
    simp only [Array.getD_eq_getD_getElem?] at e4
    have e5 : c.tmps.getD 34 undef = .string name := hI.fact 5 34 rfl (listed hall 5 (by kernel_rfl))
    simp only [Array.getD_eq_getD_getElem?] at e5
    go_simp
    refine (hpr.out wx hS).mono ?_
    rintro e w2 ⟨rfl, hb2⟩
    go_simp
    have hS2 : Below W.heap.size W w2 := hS.trans (hb2.mono hS.size)
    exact hK' _ _ ⟨Nk, No, hI.step setRa 6 35 rfl (by rw [hsz]; decide) _ _ rfl hall hS2 (fun _ _ h => SetF.new h hb2) rfl, hNk, hNo⟩
  · have e6 : c.tmps.getD 35 undef = .tuple #[.int .i64 (lowT nd.props name), .bool (hasT nd.props name)] := hI.fact 6 35 rfl (listed hall 6 (by kernel_rfl))
    simp only [Array.getD_eq_getD_getElem?] at e6
    go_simp
    exact hK' _ _ ⟨Nk, No, hI.step setRa 7 28 rfl (by rw [hsz]; decide) _ _ rfl hall hS (fun _ _ h => h) rfl, hNk, hNo⟩
  · have e7 : c.tmps.getD 28 undef = .tuple #[.int .i64 (lowT nd.props name), .bool (hasT nd.props name)] := hI.fact 7 28 rfl (listed hall 7 (by kernel_rfl))
    simp only [Array.getD_eq_getD_getElem?] at e7
    go_simp
    exact hK' _ _ ⟨Nk, No, hI.step setRa 8 36 rfl (by rw [hsz]; decide) _ _ rfl hall hS (fun _ _ h => h) rfl, hNk, hNo⟩
  · have e7 : c.tmps.getD 28 undef = .tuple #[.int .i64 (lowT nd.props name), .bool (hasT nd.props name)] := hI.fact 7 28 rfl (listed hall 7 (by kernel_rfl))
    simp only [Array.getD_eq_getD_getElem?] at e7
    go_simp
    exact hK' _ _ ⟨Nk, No, hI.step setRa 9 37 rfl (by rw [hsz]; decide) _ _ rfl hall hS (fun _ _ h => h) rfl, hNk, hNo⟩
  · go_simp
    have hb2 : Below wx.heap.size wx (wx.alloc (.cells #[.int .i64 0] 3)) := (Below.refl _ _).alloc (Nat.le_refl _) _
    have hS2 := hS.trans (hb2.mono hS.size)
    have us := hI.2.2.1.2.unlisted hl (j := 12) (by kernel_rfl)
    have hNn : W.heap.size ≤ wx.heap.size := hS.size
    have hJ := hI.other (F' := SetF X g o n cap at_ bn nd pa pc name wx.heap.size No) (fun j hj u hF => hF.ghostNk (yes_no hj hl) (yes_no hj us))
    exact hK' _ _ ⟨wx.heap.size, No, hJ.step setRa 10 12 rfl (by rw [hsz]; decide) _ _ rfl hall hS2 (fun _ _ h => SetF.new h hb2) ⟨rfl, _, Holds.new _ _ _⟩, hNn, hNo⟩
  · go_simp
    have hb2 : Below wx.heap.size wx (wx.alloc (.cells #[.bool false] 4)) := (Below.refl _ _).alloc (Nat.le_refl _) _
    have hS2 := hS.trans (hb2.mono hS.size)
    have us := hI.2.2.1.2.unlisted hl (j := 13) (by kernel_rfl)
    have hNn : W.heap.size ≤ wx.heap.size := hS.size
    have hJ := hI.other (F' := SetF X g o n cap at_ bn nd pa pc name Nk wx.heap.size) (fun j hj u hF => hF.ghostNo (yes_no hj hl) (yes_no hj us))
    exact hK' _ _ ⟨Nk, wx.heap.size, hJ.step setRa 11 13 rfl (by rw [hsz]; decide) _ _ rfl hall hS2 (fun _ _ h => SetF.new h hb2) ⟨rfl, _, Holds.new _ _ _⟩, hNk, hNn⟩
  · obtain ⟨ep, x, hHN⟩ : c.tmps.getD 12 undef = .pointer (some ⟨Nk, 0, none⟩) ∧ ∃ x, Holds wx Nk #[x] 3 := hI.fact 10 12 rfl (listed hall 10 (by kernel_rfl))
    simp only [Array.getD_eq_getD_getElem?] at ep
    have e8 : c.tmps.getD 36 undef = .int .i64 (lowT nd.props name) := hI.fact 8 36 rfl (listed hall 8 (by kernel_rfl))
    simp only [Array.getD_eq_getD_getElem?] at e8
    have n0 : wx.cell? ⟨Nk, 0, none⟩ = some x := hHN.cell 0
    have n1 : wx.frozen? ⟨Nk, 0, none⟩ = false := hHN.free 0
    go_simp
    have hS2 : Below W.heap.size W (wx.setCell ⟨Nk, 0, none⟩ (.int .i64 (lowT nd.props name))) := hS.setCell (p := ⟨Nk, 0, none⟩) hNk _
    exact hK' _ _ ⟨Nk, No, hI.stepN 12 rfl _ rfl hall hS2 (fun _ _ h => h.putNk hHN) (hHN.set 0 _), hNk, hNo⟩
  · obtain ⟨ep, x, hHN⟩ : c.tmps.getD 13 undef = .pointer (some ⟨No, 0, none⟩) ∧ ∃ x, Holds wx No #[x] 4 := hI.fact 11 13 rfl (listed hall 11 (by kernel_rfl))
    simp only [Array.getD_eq_getD_getElem?] at ep
    have e9 : c.tmps.getD 37 undef = .bool (hasT nd.props name) := hI.fact 9 37 rfl (listed hall 9 (by kernel_rfl))
    simp only [Array.getD_eq_getD_getElem?] at e9
    have n0 : wx.cell? ⟨No, 0, none⟩ = some x := hHN.cell 0
    have n1 : wx.frozen? ⟨No, 0, none⟩ = false := hHN.free 0
    go_simp
    have hS2 : Below W.heap.size W (wx.setCell ⟨No, 0, none⟩ (.bool (hasT nd.props name))) := hS.setCell (p := ⟨No, 0, none⟩) hNo _
    exact hK' _ _ ⟨Nk, No, hI.stepN 13 rfl _ rfl hall hS2 (fun _ _ h => h.putNo hHN) (hHN.set 0 _), hNk, hNo⟩
end Go.Proofs.YtjfkjnakmmkkiaaGreat

namespace Go.Proofs.YtjfkjnakmmkkiaaGreat
open Go.RowKit

theorem putT_len2 (l : List PropT) (p : PropT) : (putT l p).length = l.length + 1 - (if hasT l p.name = true then 1 else 0) := by
  have h1 := low_le l p.name
  have h2 := rest_le l p.name
  have h3 : restT l p.name = lowT l p.name + if hasT l p.name = true then 1 else 0 := rfl
  unfold putT
  simp only [List.length_append, List.length_take, List.length_cons, List.length_drop]
  cases h : hasT l p.name with
  | true => rw [h, if_pos rfl] at h3; simp only [if_true]; omega
  | false => rw [h, if_neg (by decide)] at h3; rw [if_neg (by decide)]; omega
theorem asc_of_check {T : List NodeT} (hc : checkT T = 0) (k : Nat) (hk : k < T.length) : ascT T[k].props = true := by
  have hp := check_parts hc
  have h := ((walked_iff (par_of_named hp.2.1) (named_root hp.2.1 (by omega))).1 hp.2.2.1).1 k hk
  rw [propsOf_at hk] at h; exact h
theorem set_fit {n : NodeT} (h : fitB n = true) (p : PropT) : fitB (setNode n p) = (decide ((putT n.props p).length ≤ 24) && decide (p.value.size ≤ 256)) := by
  unfold fitB at *
  rw [Bool.and_eq_true] at h
  have ha := List.all_eq_true.1 h.2
  show (decide ((putT n.props p).length ≤ 24) && (putT n.props p).all fun p => decide (p.value.size ≤ 256)) = _
  congr 1
  unfold putT
  rw [List.all_append, List.all_cons]
  rw [List.all_eq_true.2 (fun q hq => ha q (List.mem_of_mem_take hq)), List.all_eq_true.2 (fun q hq => ha q (List.mem_of_mem_drop hq))]
  simp
theorem set_limit {T : List NodeT} (hl : limitsT T = true) {k : Nat} (hk : k < T.length) (p : PropT) : limitsT (setAt T k p) = (decide ((putT T[k].props p).length ≤ 24) && decide (p.value.size ≤ 256)) := by
  have hs : setAt T k p = T.set k (setNode T[k] p) := by unfold setAt; rw [List.getElem?_eq_getElem hk]
  rw [hs]
  unfold limitsT at *
  rw [Bool.and_eq_true] at hl
  have ha := List.all_eq_true.1 hl.2
  rw [List.length_set, hl.1, Bool.true_and, ← set_fit (ha _ (List.getElem_mem hk))]
  cases hf : fitB (setNode T[k] p) with
  | true =>
    rw [List.all_eq_true]
    intro q hq
    rcases List.mem_or_eq_of_mem_set hq with h | h
    · exact ha q h
    · rw [h]; exact hf
  | false =>
    rw [List.all_eq_false]
    exact ⟨_, List.mem_set hk _, by simp [hf]⟩
theorem setT_ok {T : List NodeT} {s name value : ByteArray} {k : Nat} (hb : rBeginT T s = ((k : Int), 0)) : setT T s name value = if propB name = false then ([], 1) else if limitsT (setAt T k ⟨name, value⟩) = false then ([], 3) else (setAt T k ⟨name, value⟩, 0) := by
  unfold setT; rw [hb, if_neg (by simp)]; rfl
theorem enters_Set1 : ∀ args w, (callFunc 109 args).run Tryz.prog w = .ok (.enter 109 args) w := enters_of Tryz.func109 (by kernel_rfl) rfl

set_option maxRecDepth 100000 in
set_option maxHeartbeats 4000000 in
theorem tree_Set (R : Nat → Prop) (v : Value) (T : List NodeT) (s name value : ByteArray) (w : World) (hT : NodesIn R w v T) (hns : name.size ≤ 9223372036854775807) (hvs : value.size ≤ 9223372036854775807) :
    Calls Tryz.prog 53 #[.agg #[v], .string s, .string name, .string value] w (EditPost (setT T s name value) w) := by
  obtain ⟨a, cap, rfl, hc1, hc2⟩ := hT.shape
  have HT := Lib.hid hT.bound; clear hT
  have hbg := fun wx hx => tree_begin (fun g => g < w.heap.size) (.slice a T.length cap) T s wx hx
  obtain ⟨W0, hW0⟩ : ∃ W0, W0 = (((w.alloc (.cells #[.slice a T.length cap] 25)).alloc (.cells #[.string name] 9)).alloc (.cells #[.string value] 9)).alloc (.cells #[.slice none 0 0] 25) := ⟨_, rfl⟩
  have hb0 : Below w.heap.size w W0 := by rw [hW0]; exact ((((Below.refl _ _).alloc (Nat.le_refl _) _).alloc (by simp) _).alloc (by simp; omega) _).alloc (by simp; omega) _
  have hX0 : Holds W0 w.heap.size #[.slice a T.length cap] 25 := by rw [hW0]; exact (((Holds.new w #[.slice a T.length cap] 25).alloc _).alloc _).alloc _
  have hN0 : Holds W0 (w.heap.size + 1) #[.string name] 9 := by rw [hW0]; exact ((Holds.newAt (w := w.alloc (.cells #[.slice a T.length cap] 25)) (B := w.heap.size + 1) (by simp) #[.string name] 9).alloc _).alloc _
  have hV0 : Holds W0 (w.heap.size + 1 + 1) #[.string value] 9 := by rw [hW0]; exact (Holds.newAt (w := (w.alloc (.cells #[.slice a T.length cap] 25)).alloc (.cells #[.string name] 9)) (B := w.heap.size + 1 + 1) (by simp) #[.string value] 9).alloc _
  have hZ0 : Holds W0 (w.heap.size + 1 + 1 + 1) #[.slice none 0 0] 25 := by rw [hW0]; exact Holds.newAt (w := ((w.alloc (.cells #[.slice a T.length cap] 25)).alloc (.cells #[.string name] 9)).alloc (.cells #[.string value] 9)) (B := w.heap.size + 1 + 1 + 1) (by simp) #[.slice none 0 0] 25
  have hT0 : NodesIn (fun g => g < w.heap.size) W0 (.slice a T.length cap) T := HT.out.new hb0
  have hsz0 := hb0.size
  have hzl := hZ0.lt
  rcases begin_cases T s with ⟨hne, h10⟩ | ⟨hck, k, hk, hbe, hps⟩
  · have hE := Lib.hid (show setT T s name value = ([], (rBeginT T s).2) from by unfold setT; rw [if_pos hne])
    have hne' : ((rBeginT T s).2 != 0) = true := by simpa using hne
    rw [h10] at hbg
    have HBG := Lib.hid hbg
    clear hbg hne h10
    generalize (rBeginT T s).2 = c at *
    go_enter Tryz.func53, Tryz.ntmps53
    go_wp2_with fail
    rw [← hW0]
    refine (HBG.out _ (by exact hT0)).mono ?_
    rintro e w1 ⟨rfl, hb1⟩
    have hZ1 := hZ0.keeps (Keeps.of_fresh hb1 (fun _ => False)) (fun e => e)
    have hb2 := hb0.trans (hb1.mono hsz0)
    have z0 := hZ1.cell 0
    have zf := hZ1.free 0
    go_wp2_with fail
    have q0 : (w1.setCell ⟨w.heap.size + 1 + 1 + 1, 0, none⟩ (.slice none 0 0)).cell? ⟨w.heap.size + 1 + 1 + 1, 0, none⟩ = some (.slice none 0 0) := (hZ1.set 0 _).cell 0
    exact bodyPost_ret (v := .tuple #[.agg #[.slice none 0 0], .int .i64 c]) (by simp [results, Tryz.results53, go_sem, q0]) rfl ⟨_, by rw [hE.out], by rw [hE.out]; exact TreeRow.nil _ _, hb2.setCell (p := ⟨w.heap.size + 1 + 1 + 1, 0, none⟩) (by simp; omega) _⟩
  · rw [hbe] at hbg
    have HBG := Lib.hid hbg
    have hE := Lib.hid (setT_ok (name := name) (value := value) hbe)
    have hpn := Lib.hid (fun wx => tree_Property name wx hns)
    have hlim := check_limits hck
    have hl2 := (limits_len hlim).2
    have hpl := (check_props hck) T[k] (List.getElem_mem hk)
    have HCK := Lib.hid hck
    clear hbg hbe hck
    cases hpb : propB name with
    | false =>
      have hF := Lib.hid (show setT T s name value = ([], 1) from by rw [hE.out, if_pos hpb])
      have HPN := Lib.hid (fun wx => by have := hpn.out wx; rw [hpb] at this; exact this)
      clear hpn hpb hE
      go_enter Tryz.func53, Tryz.ntmps53
      go_wp2_with fail
      rw [← hW0]
      refine (HBG.out _ (by exact hT0)).mono ?_
      rintro e w1 ⟨rfl, hb1⟩
      have hZ1 := hZ0.keeps (Keeps.of_fresh hb1 (fun _ => False)) (fun e => e)
      have hN1 := hN0.keeps (Keeps.of_fresh hb1 (fun _ => False)) (fun e => e)
      have hb2 := hb0.trans (hb1.mono hsz0)
      have z0 := hZ1.cell 0
      have zf := hZ1.free 0
      have y0 := hN1.cell 0
      go_wp2_with fail
      refine (HPN.out _).mono ?_
      rintro e w2 ⟨rfl, rfl⟩
      go_wp2_with fail
      have q0 : (w1.setCell ⟨w.heap.size + 1 + 1 + 1, 0, none⟩ (.slice none 0 0)).cell? ⟨w.heap.size + 1 + 1 + 1, 0, none⟩ = some (.slice none 0 0) := (hZ1.set 0 _).cell 0
      exact bodyPost_ret (v := .tuple #[.agg #[.slice none 0 0], .int .i64 1]) (by simp [results, Tryz.results53, go_sem, q0]) rfl ⟨_, by rw [hF.out], by rw [hF.out]; exact TreeRow.nil _ _, hb2.setCell (p := ⟨w.heap.size + 1 + 1 + 1, 0, none⟩) (by simp; omega) _⟩
    | true =>
      have hF := Lib.hid (show setT T s name value = if limitsT (setAt T k ⟨name, value⟩) = false then ([], 3) else (setAt T k ⟨name, value⟩, 0) from by rw [hE.out, if_neg (by rw [hpb]; decide)])
      have HPN := Lib.hid (fun wx => by have := hpn.out wx; rw [hpb] at this; exact this)
      clear hpn hpb hE
      have hlm := set_limit hlim hk ⟨name, value⟩
      rw [putT_len2] at hlm
      have hset : setAt T k ⟨name, value⟩ = T.set k ⟨T[k].parent, T[k].name, putT T[k].props ⟨name, value⟩⟩ := by unfold setAt; rw [List.getElem?_eq_getElem hk]; rfl
      have HSET := Lib.hid hset
      have HLM := Lib.hid hlm
      clear hset hlm
      have hasc := asc_of_check HCK.out k hk
      go_enter Tryz.func53, Tryz.ntmps53
      go_wp2_with fail
      rw [← hW0]
      refine (HBG.out _ (by exact hT0)).mono ?_
      rintro e w1 ⟨rfl, hb1⟩
      have kk1 := Keeps.of_fresh hb1 (fun _ => False)
      have hZ1 := hZ0.keeps kk1 (fun e => e)
      have hN1 := hN0.keeps kk1 (fun e => e)
      have hX1 := hX0.keeps kk1 (fun e => e)
      have hV1 := hV0.keeps kk1 (fun e => e)
      have hT1 := hT0.new hb1
      have hb2 := hb0.trans (hb1.mono hsz0)
      have y0 := hN1.cell 0
      clear hZ0 hN0 hX0 hV0 hT0 hb0 hW0 hb1 kk1 HBG
      go_wp2_with fail
      refine (HPN.out _).mono ?_
      rintro e w2 ⟨rfl, rfl⟩
      obtain ⟨g, o, pa, pc, hva, hg, q0, q1, q2, hPP, hpc, hpc2, hns2, hp0, hp1⟩ := hT1.at k hk
      subst hva
      have hprop := Lib.hid (fun (wx : World) (hx : Below w1.heap.size w1 wx) => tree_property (fun g => g < w.heap.size) (.slice pa T[k].props.length pc) T[k] name wx (hPP.new hx) hasc hpl)
      have hgl1 : g < w1.heap.size := hg
      have hs1 := hb2.size
      clear hPP
      go_wp2_with fail
      refine wp_region_any (by kernel_rfl) ?_
      refine wpAny_ops (ops' := setOps 6) (by kernel_rfl) ?_
      refine set_region w.heap.size g o T.length cap k (w.heap.size + 1) T[k] pa pc name w1 w1.drew _ rfl hk hgl1 hX1 hN1 q0 q1 q2 rfl rfl rfl hprop ((Below.refl _ _).drew) ?_
      intro c w3 Nk No hsb hb3 ek hNk eo hNo hkl hol
      obtain ⟨y12, y13, y28, y29, y30, y31, y32, y33, y34, y35, y36, y37, hc⟩ := hsb.ex [12, 13, 28, 29, 30, 31, 32, 33, 34, 35, 36, 37] (by kernel_rfl)
      subst hc
      simp only [List.setIfInBounds_toArray, List.set_cons_zero, List.set_cons_succ] at ek eo ⊢
      have ek' : y12 = .pointer (some ⟨Nk, 0, none⟩) := ek
      have eo' : y13 = .pointer (some ⟨No, 0, none⟩) := eo
      subst ek'
      subst eo'
      have kk3 := Keeps.of_fresh hb3 (fun _ => False)
      have hZ3 := hZ1.keeps kk3 (fun e => e)
      have hX3 := hX1.keeps kk3 (fun e => e)
      have hN3 := hN1.keeps kk3 (fun e => e)
      have hV3 := hV1.keeps kk3 (fun e => e)
      have hT3 := hT1.new hb3
      have hb4 := hb2.trans (hb3.mono hb2.size)
      have q2' := (hb3.cell (p := ⟨g, o + k * 3 + 2, none⟩) hgl1).trans q2
      have x0 := hX3.cell 0
      have z0 := hZ3.cell 0
      have zf := hZ3.free 0
      have v0 := hV3.cell 0
      have o0 := hNo.cell 0
      have hpo : PropOk ⟨name, value⟩ := ⟨hns, hvs⟩
      have hcl : ∀ base u wx, Below w3.heap.size w3 wx → w3.heap.size ≤ base → base ≤ wx.heap.size → PropRow wx base u T[k].props → Calls Tryz.prog 109 (#[u] ++ #[.pointer (some ⟨No, 0, none⟩), .pointer (some ⟨Nk, 0, none⟩), .pointer (some ⟨w.heap.size + 1, 0, none⟩), .pointer (some ⟨w.heap.size + 1 + 1, 0, none⟩)]) wx fun e w' => ∃ v', e = .returned v' ∧ PropRow w' base v' (putT T[k].props ⟨name, value⟩) ∧ Keeps (fun b => u.ownBlock = some b) wx w' :=
        fun base u wx hbx _ hbb hr => by
          have kx := Keeps.of_fresh hbx (fun _ => False)
          exact tree_Set1 base No Nk (w.heap.size + 1) (w.heap.size + 1 + 1) u T[k].props name value wx hr hpl hpo hbb (hNo.keeps kx (fun e => e)) (hNk.keeps kx (fun e => e)) (hN3.keeps kx (fun e => e)) (hV3.keeps kx (fun e => e))
      have hch := Lib.hid (tree_changed (fun g => g < w.heap.size) (.slice (some ⟨g, o, none⟩) T.length cap) T k 109 _ (putT T[k].props ⟨name, value⟩) w3 hT3 HCK.out hk enters_Set1 hcl)
      have hs4 := hb4.size
      have hEr := Lib.hid (show ∀ (h : limitsT (setAt T k ⟨name, value⟩) = false), setT T s name value = ([], 3) from fun h => by rw [hF.out, if_pos h])
      have hOk := Lib.hid (show ∀ (h : limitsT (setAt T k ⟨name, value⟩) = true), setT T s name value = (T.set k ⟨T[k].parent, T[k].name, putT T[k].props ⟨name, value⟩⟩, 0) from fun h => by rw [hF.out, if_neg (by rw [h]; decide), HSET.out])
      have hZ4 : ∀ x : Value, ((w3.setCell ⟨w.heap.size + 1 + 1 + 1, 0, none⟩ x)).cell? ⟨w.heap.size + 1 + 1 + 1, 0, none⟩ = some x := fun x => (hZ3.set 0 x).cell 0
      have HZ4 := Lib.hid hZ4
      have HB4 := Lib.hid hb4
      have HZ3 := Lib.hid hZ3
      have hkl' : (k : Int) < T.length := by omega
      clear hZ4 hcl hpo hX3 hN3 hV3 hT3 hNk hNo hb3 kk3 hsb ek eo hX1 hN1 hV1 hZ1 hT1 hb2 q0 q1 q2 hprop hasc HPN y0 hb4 hZ3
      by_cases hval : 256 < value.size
      · have hbad : limitsT (setAt T k ⟨name, value⟩) = false := by rw [HLM.out]; simp; omega
        have hER := Lib.hid (hEr.out hbad)
        have hval' : decide ((256 : Int) < (value.size : Int)) = true := by simp; omega
        clear hEr hOk hch
        cases hhas : hasT T[k].props name with
        | true =>
          rw [hhas] at o0
          go_wp2_with fail
          exact bodyPost_ret (v := .tuple #[.agg #[.slice none 0 0], .int .i64 3]) (by simp [results, Tryz.results53, go_sem, HZ4.out]) rfl ⟨_, by rw [hER.out], by rw [hER.out]; exact TreeRow.nil _ _, HB4.out.setCell (p := ⟨w.heap.size + 1 + 1 + 1, 0, none⟩) (by simp; omega) _⟩
        | false =>
          rw [hhas] at o0
          by_cases h24 : T[k].props.length = 24
          · have h24' : ((T[k].props.length : Int) == 24) = true := by rw [h24]; rfl
            go_wp2_with fail
            exact bodyPost_ret (v := .tuple #[.agg #[.slice none 0 0], .int .i64 3]) (by simp [results, Tryz.results53, go_sem, HZ4.out]) rfl ⟨_, by rw [hER.out], by rw [hER.out]; exact TreeRow.nil _ _, HB4.out.setCell (p := ⟨w.heap.size + 1 + 1 + 1, 0, none⟩) (by simp; omega) _⟩
          · have h24' : ((T[k].props.length : Int) == 24) = false := by rw [beq_eq_false_iff_ne]; omega
            go_wp2_with fail
            exact bodyPost_ret (v := .tuple #[.agg #[.slice none 0 0], .int .i64 3]) (by simp [results, Tryz.results53, go_sem, HZ4.out]) rfl ⟨_, by rw [hER.out], by rw [hER.out]; exact TreeRow.nil _ _, HB4.out.setCell (p := ⟨w.heap.size + 1 + 1 + 1, 0, none⟩) (by simp; omega) _⟩
      · have hval' : decide ((256 : Int) < (value.size : Int)) = false := by simp; omega
        have hfp : T[k].props.length ≤ 24 := by
          have h := hlim
          unfold limitsT at h
          rw [Bool.and_eq_true] at h
          have := List.all_eq_true.1 h.2 _ (List.getElem_mem hk)
          unfold fitB at this
          rw [Bool.and_eq_true] at this
          exact of_decide_eq_true this.1
        cases hhas : hasT T[k].props name with
        | true =>
          rw [hhas] at o0
          have hgood : limitsT (setAt T k ⟨name, value⟩) = true := by rw [HLM.out, hhas]; simp; omega
          have hOK := Lib.hid (hOk.out hgood)
          clear hEr hOk
          go_wp2_with fail
          refine hch.out.mono ?_
          rintro e w5 ⟨v5, rfl, hr5, hb5⟩
          obtain ⟨sa, sc, rfl⟩ := tree_slice hr5
          have hZ5 := HZ3.out.keeps (Keeps.of_fresh hb5 (fun _ => False)) (fun e => e)
          have z5 := hZ5.cell 0
          have f5 := hZ5.free 0
          have r5 := (hr5.base (HB4.out.size)).set hZ5 (by decide) (by decide) 0 (.slice sa (T.set k ⟨T[k].parent, T[k].name, putT T[k].props ⟨name, value⟩⟩).length sc)
          have b5 := (HB4.out.trans (hb5.mono HB4.out.size)).setCell (p := ⟨w.heap.size + 1 + 1 + 1, 0, none⟩) (by simp; omega) (.slice sa (T.set k ⟨T[k].parent, T[k].name, putT T[k].props ⟨name, value⟩⟩).length sc)
          have c5 := (hZ5.set 0 (.slice sa (T.set k ⟨T[k].parent, T[k].name, putT T[k].props ⟨name, value⟩⟩).length sc)).cell 0
          have HF5 := Lib.hid (And.intro r5 (And.intro b5 c5))
          clear r5 b5 c5 hr5 hZ5 hb5 hch
          generalize (T.set k ⟨T[k].parent, T[k].name, putT T[k].props ⟨name, value⟩⟩) = T5 at *
          generalize hl5 : T5.length = n5 at *
          go_wp2_with fail
          exact bodyPost_ret (v := .tuple #[.agg #[.slice sa n5 sc], .int .i64 0]) (by simp [results, Tryz.results53, go_sem, HF5.out.2.2]) rfl ⟨_, by rw [hOK.out], by rw [hOK.out]; exact HF5.out.1, HF5.out.2.1⟩
        | false =>
          rw [hhas] at o0
          by_cases h24 : T[k].props.length = 24
          · have hbad : limitsT (setAt T k ⟨name, value⟩) = false := by rw [HLM.out, hhas, h24]; rfl
            have hER := Lib.hid (hEr.out hbad)
            have h24' : ((T[k].props.length : Int) == 24) = true := by rw [h24]; rfl
            clear hEr hOk hch
            go_wp2_with fail
            exact bodyPost_ret (v := .tuple #[.agg #[.slice none 0 0], .int .i64 3]) (by simp [results, Tryz.results53, go_sem, HZ4.out]) rfl ⟨_, by rw [hER.out], by rw [hER.out]; exact TreeRow.nil _ _, HB4.out.setCell (p := ⟨w.heap.size + 1 + 1 + 1, 0, none⟩) (by simp; omega) _⟩
          · have hgood : limitsT (setAt T k ⟨name, value⟩) = true := by rw [HLM.out, hhas]; simp; omega
            have hOK := Lib.hid (hOk.out hgood)
            have h24' : ((T[k].props.length : Int) == 24) = false := by rw [beq_eq_false_iff_ne]; omega
            clear hEr hOk
            go_wp2_with fail
            refine hch.out.mono ?_
            rintro e w5 ⟨v5, rfl, hr5, hb5⟩
            obtain ⟨sa, sc, rfl⟩ := tree_slice hr5
            have hZ5 := HZ3.out.keeps (Keeps.of_fresh hb5 (fun _ => False)) (fun e => e)
            have z5 := hZ5.cell 0
            have f5 := hZ5.free 0
            have r5 := (hr5.base (HB4.out.size)).set hZ5 (by decide) (by decide) 0 (.slice sa (T.set k ⟨T[k].parent, T[k].name, putT T[k].props ⟨name, value⟩⟩).length sc)
            have b5 := (HB4.out.trans (hb5.mono HB4.out.size)).setCell (p := ⟨w.heap.size + 1 + 1 + 1, 0, none⟩) (by simp; omega) (.slice sa (T.set k ⟨T[k].parent, T[k].name, putT T[k].props ⟨name, value⟩⟩).length sc)
            have c5 := (hZ5.set 0 (.slice sa (T.set k ⟨T[k].parent, T[k].name, putT T[k].props ⟨name, value⟩⟩).length sc)).cell 0
            have HF5 := Lib.hid (And.intro r5 (And.intro b5 c5))
            clear r5 b5 c5 hr5 hZ5 hb5 hch
            generalize (T.set k ⟨T[k].parent, T[k].name, putT T[k].props ⟨name, value⟩⟩) = T5 at *
            generalize hl5 : T5.length = n5 at *
            go_wp2_with fail
            exact bodyPost_ret (v := .tuple #[.agg #[.slice sa n5 sc], .int .i64 0]) (by simp [results, Tryz.results53, go_sem, HF5.out.2.2]) rfl ⟨_, by rw [hOK.out], by rw [hOK.out]; exact HF5.out.1, HF5.out.2.1⟩
end Go.Proofs.YtjfkjnakmmkkiaaGreat

open Go
namespace Go.Proofs.YtjfkjnakmmkkiaaGreat

theorem eq_of_lt {a b : ByteArray} (h : ltS a b = true) : eqS a b = false := by
  cases e : eqS a b with
  | false => rfl
  | true => rw [(eqS_iff a b).1 e, ltS_irrefl] at h; cases h
theorem eq_of_gt {a b : ByteArray} (h : ltS b a = true) : eqS a b = false := by
  cases e : eqS a b with
  | false => rfl
  | true => rw [(eqS_iff a b).1 e, ltS_irrefl] at h; cases h
theorem low_cases (x : ByteArray) : ∀ ps : List PropT, (∀ j (hj : j < ps.length), j < lowT ps x → ltS ps[j].name x = true) ∧ (∀ h : lowT ps x < ps.length, ltS ps[lowT ps x].name x = false) := by
  intro ps
  induction ps with
  | nil => exact ⟨fun j hj => absurd hj (Nat.not_lt_zero j), fun h => absurd h (Nat.not_lt_zero _)⟩
  | cons a l ih =>
    by_cases e : ltS a.name x = true
    · have hl : lowT (a :: l) x = lowT l x + 1 := by unfold lowT; rw [List.takeWhile_cons, if_pos e]; rfl
      refine ⟨fun j hj h => ?_, fun h => ?_⟩
      · cases j with
        | zero => exact e
        | succ j => exact ih.1 j (by simpa using hj) (by omega)
      · have h2 : lowT l x < l.length := by rw [hl] at h; simpa using h
        have := ih.2 h2
        simp only [hl, List.getElem_cons_succ]
        exact this
    · have hl : lowT (a :: l) x = 0 := by unfold lowT; rw [List.takeWhile_cons, if_neg e]; rfl
      refine ⟨fun j hj h => by omega, fun h => ?_⟩
      simp only [hl, List.getElem_cons_zero]
      simpa using e
/-- In a row in order nothing but the found place has the name. -/
theorem low_only {ps : List PropT} {x : ByteArray} (ha : ascT ps = true) (j : Nat) (hj : j < ps.length) (hne : j ≠ lowT ps x ∨ hasT ps x = false) : eqS ps[j].name x = false := by
  obtain ⟨h1, h2⟩ := low_cases x ps
  rcases Nat.lt_trichotomy j (lowT ps x) with e | e | e
  · exact eq_of_lt (h1 j hj e)
  · rcases hne with h | h
    · exact absurd e h
    · subst e; rw [has_at hj] at h; exact h
  · have hl : lowT ps x < ps.length := by omega
    have h3 := asc_lt ps ha _ j hl hj e
    have h4 := h2 hl
    rcases ltS_total h4 with h5 | h5
    · rw [h5] at h3; exact eq_of_gt h3
    · exact eq_of_gt (ltS_trans h5 h3)
theorem without_del {ps : List PropT} {x : ByteArray} (ha : ascT ps = true) (hh : hasT ps x = true) : withoutT ps x = delP ps (lowT ps x) := by
  have hl : lowT ps x < ps.length := by
    by_cases e : lowT ps x < ps.length
    · exact e
    · rw [has_none (by omega)] at hh; cases hh
  have hx : eqS ps[lowT ps x].name x = true := by rw [← has_at hl]; exact hh
  have hs : ps = ps.take (lowT ps x) ++ ps[lowT ps x] :: ps.drop (lowT ps x + 1) := by
    rw [← List.drop_eq_getElem_cons hl, List.take_append_drop]
  unfold withoutT delP
  conv => lhs; rw [hs]
  rw [List.filter_append, List.filter_cons_of_neg (by simp [hx])]
  congr 1
  · rw [List.filter_eq_self]
    intro p hp
    obtain ⟨j, hj, rfl⟩ := List.getElem_of_mem hp
    rw [List.length_take] at hj
    rw [List.getElem_take, low_only ha j (by omega) (.inl (by omega))]; rfl
  · rw [List.filter_eq_self]
    intro p hp
    obtain ⟨j, hj, rfl⟩ := List.getElem_of_mem hp
    rw [List.length_drop] at hj
    rw [List.getElem_drop, low_only ha _ (by omega) (.inl (by omega))]; rfl
theorem of_low {ps : List PropT} {x : ByteArray} (ha : ascT ps = true) : ofT ps x = if hasT ps x = true then (match ps[lowT ps x]? with | some p => p.value | none => ByteArray.empty, true) else (ByteArray.empty, false) := by
  cases hh : hasT ps x with
  | false => rw [if_neg (by decide)]; exact of_no (fun j hj _ => low_only ha j hj (.inr hh))
  | true =>
    have hl : lowT ps x < ps.length := by
      by_cases e : lowT ps x < ps.length
      · exact e
      · rw [has_none (by omega)] at hh; cases hh
    rw [if_pos rfl, List.getElem?_eq_getElem hl]
    exact of_yes hl (by rw [← has_at hl]; exact hh) (fun j hj h => low_only ha j hj (.inl (by omega)))
theorem of_snd {ps : List PropT} {x : ByteArray} (ha : ascT ps = true) : (ofT ps x).2 = hasT ps x := by
  rw [of_low ha]
  cases hasT ps x <;> rfl
/-- What Delete returns. -/
def deleteT (T : List NodeT) (s x : ByteArray) : List NodeT × Int :=
  if (rBeginT T s).2 ≠ 0 then ([], (rBeginT T s).2) else
    match T[(rBeginT T s).1.toNat]? with
    | none => ([], 0)
    | some n => if hasT n.props x = false then ([], 4) else (T.set (rBeginT T s).1.toNat ⟨n.parent, n.name, withoutT n.props x⟩, 0)
theorem delete_ok {T : List NodeT} {s x : ByteArray} {k : Nat} (hk : k < T.length) (hb : rBeginT T s = ((k : Int), 0)) : deleteT T s x = if hasT T[k].props x = false then ([], 4) else (T.set k ⟨T[k].parent, T[k].name, withoutT T[k].props x⟩, 0) := by
  unfold deleteT
  rw [hb, if_neg (by simp)]
  simp only [Int.toNat_natCast, List.getElem?_eq_getElem hk]
end Go.Proofs.YtjfkjnakmmkkiaaGreat

namespace Go.Proofs.YtjfkjnakmmkkiaaGreat
open Go.RowKit

set_option maxRecDepth 100000 in
set_option maxHeartbeats 1000000 in
/-- The closure of Delete. -/
theorem tree_Delete1 (base bk k : Nat) (v : Value) (ps : List PropT) (w : World) (hr : PropRow w base v ps) (hl : ps.length ≤ 1000) (hk : k < ps.length) (hH : Holds w bk #[.int .i64 k] 3) :
    Calls Tryz.prog 115 #[v, .pointer (some ⟨bk, 0, none⟩)] w fun e w' => ∃ v', e = .returned v' ∧ PropRow w' base v' (delP ps k) ∧ Keeps (fun b => v.ownBlock = some b) w w' := by
  have x0 := hH.cell 0
  have HD := Lib.hid (fun (wx : World) (h : PropRow wx base v ps) => props_Delete base v ps k wx h hk hl)
  have HR := Lib.hid hr
  obtain ⟨va, vc, rfl⟩ := row_slice hr.1
  clear hr hH
  go_enter Tryz.func115, Tryz.ntmps115
  go_wp2_with fail
  refine (HD.out _ HR.out).mono ?_
  rintro e w2 ⟨v2, rfl, hr2, k2⟩
  go_wp2_with fail
  go_ret
  exact ⟨_, rfl, hr2, k2⟩
theorem enters_Delete1 : ∀ args w, (callFunc 115 args).run Tryz.prog w = .ok (.enter 115 args) w := enters_of Tryz.func115 (by kernel_rfl) rfl

set_option maxRecDepth 100000 in
set_option maxHeartbeats 4000000 in
theorem tree_Delete (R : Nat → Prop) (v : Value) (T : List NodeT) (s name : ByteArray) (w : World) (hT : NodesIn R w v T) :
    Calls Tryz.prog 60 #[.agg #[v], .string s, .string name] w (EditPost (deleteT T s name) w) := by
  obtain ⟨a, cap, rfl, hc1, hc2⟩ := hT.shape
  have HT := Lib.hid hT.bound; clear hT
  have hbg := fun wx hx => tree_begin (fun g => g < w.heap.size) (.slice a T.length cap) T s wx hx
  obtain ⟨W0, hW0⟩ : ∃ W0, W0 = (w.alloc (.cells #[.slice a T.length cap] 25)).alloc (.cells #[.slice none 0 0] 25) := ⟨_, rfl⟩
  have hb0 : Below w.heap.size w W0 := by rw [hW0]; exact ((Below.refl _ _).alloc (Nat.le_refl _) _).alloc (by simp) _
  have hX0 : Holds W0 w.heap.size #[.slice a T.length cap] 25 := by rw [hW0]; exact (Holds.new w #[.slice a T.length cap] 25).alloc _
  have hZ0 : Holds W0 (w.heap.size + 1) #[.slice none 0 0] 25 := by rw [hW0]; exact Holds.newAt (w := w.alloc (.cells #[.slice a T.length cap] 25)) (B := w.heap.size + 1) (by simp) #[.slice none 0 0] 25
  have hT0 : NodesIn (fun g => g < w.heap.size) W0 (.slice a T.length cap) T := HT.out.new hb0
  have hsz0 := hb0.size
  have hzl := hZ0.lt
  rcases begin_cases T s with ⟨hne, h10⟩ | ⟨hck, k, hk, hbe, hps⟩
  · have hE := Lib.hid (show deleteT T s name = ([], (rBeginT T s).2) from by unfold deleteT; rw [if_pos hne])
    have hne' : ((rBeginT T s).2 != 0) = true := by simpa using hne
    rw [h10] at hbg
    have HBG := Lib.hid hbg
    clear hbg hne h10
    generalize (rBeginT T s).2 = c at *
    go_enter Tryz.func60, Tryz.ntmps60
    go_wp2_with fail
    rw [← hW0]
    refine (HBG.out _ (by exact hT0)).mono ?_
    rintro e w1 ⟨rfl, hb1⟩
    have hZ1 := hZ0.keeps (Keeps.of_fresh hb1 (fun _ => False)) (fun e => e)
    have hb2 := hb0.trans (hb1.mono hsz0)
    have z0 := hZ1.cell 0
    have zf := hZ1.free 0
    go_wp2_with fail
    have q0 : (w1.setCell ⟨w.heap.size + 1, 0, none⟩ (.slice none 0 0)).cell? ⟨w.heap.size + 1, 0, none⟩ = some (.slice none 0 0) := (hZ1.set 0 _).cell 0
    exact bodyPost_ret (v := .tuple #[.agg #[.slice none 0 0], .int .i64 c]) (by simp [results, Tryz.results60, go_sem, q0]) rfl ⟨_, by rw [hE.out], by rw [hE.out]; exact TreeRow.nil _ _, hb2.setCell (p := ⟨w.heap.size + 1, 0, none⟩) (by simp) _⟩
  · rw [hbe] at hbg
    have HBG := Lib.hid hbg
    have hE := Lib.hid (delete_ok (x := name) hk hbe)
    have hpl := (check_props hck) T[k] (List.getElem_mem hk)
    have HCK := Lib.hid hck
    have hasc := asc_of_check hck k hk
    have HASC := Lib.hid hasc
    clear hbg hbe hck
    go_enter Tryz.func60, Tryz.ntmps60
    go_wp2_with fail
    rw [← hW0]
    refine (HBG.out _ (by exact hT0)).mono ?_
    rintro e w1 ⟨rfl, hb1⟩
    have kk1 := Keeps.of_fresh hb1 (fun _ => False)
    have hZ1 := hZ0.keeps kk1 (fun e => e)
    have hX1 := hX0.keeps kk1 (fun e => e)
    have hT1 := hT0.new hb1
    have hb2 := hb0.trans (hb1.mono hsz0)
    clear hZ0 hX0 hT0 hb0 hW0 hb1 kk1 HBG
    obtain ⟨g, o, pa, pc, hva, hg, q0, q1, q2, hPP, hpc, hpc2, hns2, hp0, hp1⟩ := hT1.at k hk
    subst hva
    have hprop := Lib.hid (fun (wx : World) (hx : Below w1.heap.size w1 wx) => tree_property (fun g => g < w.heap.size) (.slice pa T[k].props.length pc) T[k] name wx (hPP.new hx) hasc hpl)
    have hgl1 : g < w1.heap.size := by have := hb2.size; omega
    have hs1 := hb2.size
    have x0 := hX1.cell 0
    have hkl' : (k : Int) < T.length := by omega
    clear hPP hasc
    cases hhas : hasT T[k].props name with
    | false =>
      have hF := Lib.hid (show deleteT T s name = ([], 4) from by rw [hE.out, if_pos hhas])
      have HPR := Lib.hid (fun (wx : World) (hx : Below w1.heap.size w1 wx) => by have := hprop.out wx hx; rw [hhas] at this; exact this)
      clear hprop hE hhas
      go_wp2_with fail
      refine (HPR.out _ (by exact Below.refl _ _)).mono ?_
      rintro e w3 ⟨rfl, hb3⟩
      have kk3 := Keeps.of_fresh hb3 (fun _ => False)
      have hZ3 := (hZ1.keeps kk3 (fun e => e)).alloc (.cells #[.int .i64 (lowT T[k].props name)] 3)
      have hb4 := (hb2.trans (hb3.mono hs1))
      have hb5 := hb4.alloc hb4.size (.cells #[.int .i64 (lowT T[k].props name)] 3)
      have z0 := hZ3.cell 0
      have zf := hZ3.free 0
      go_wp2_with fail
      have q0 := (hZ3.set 0 (.slice none 0 0)).cell 0
      exact bodyPost_ret (v := .tuple #[.agg #[.slice none 0 0], .int .i64 4]) (by simp [results, Tryz.results60, go_sem, q0]) rfl ⟨_, by rw [hF.out], by rw [hF.out]; exact TreeRow.nil _ _, hb5.setCell (p := ⟨w.heap.size + 1, 0, none⟩) (by simp) _⟩
    | true =>
      have hlt : lowT T[k].props name < T[k].props.length := by
        by_cases e : lowT T[k].props name < T[k].props.length
        · exact e
        · rw [has_none (by omega)] at hhas; cases hhas
      have hF := Lib.hid (show deleteT T s name = (T.set k ⟨T[k].parent, T[k].name, delP T[k].props (lowT T[k].props name)⟩, 0) from by rw [hE.out, if_neg (by rw [hhas]; decide), without_del HASC.out hhas])
      have HPR := Lib.hid (fun (wx : World) (hx : Below w1.heap.size w1 wx) => by have := hprop.out wx hx; rw [hhas] at this; exact this)
      clear hprop hE hhas
      go_wp2_with fail
      refine (HPR.out _ (by exact Below.refl _ _)).mono ?_
      rintro e w3 ⟨rfl, hb3⟩
      have kk3 := Keeps.of_fresh hb3 (fun _ => False)
      have hZ3 := (hZ1.keeps kk3 (fun e => e)).alloc (.cells #[.int .i64 (lowT T[k].props name)] 3)
      have hX3 := (hX1.keeps kk3 (fun e => e)).alloc (.cells #[.int .i64 (lowT T[k].props name)] 3)
      have hN3 := Holds.new w3 #[.int .i64 (lowT T[k].props name)] 3
      have hb4 := (hb2.trans (hb3.mono hs1))
      have hb5 := hb4.alloc hb4.size (.cells #[.int .i64 (lowT T[k].props name)] 3)
      have hT5 := (hT1.new hb3).new ((Below.refl _ _).alloc (Nat.le_refl _) (.cells #[.int .i64 (lowT T[k].props name)] 3))
      have x3 := hX3.cell 0
      have z0 := hZ3.cell 0
      have zf := hZ3.free 0
      obtain ⟨w5, hw5⟩ : ∃ x : World, x = w3.alloc (.cells #[.int .i64 (lowT T[k].props name)] 3) := ⟨_, rfl⟩
      rw [← hw5] at hZ3 hX3 hN3 hb5 hT5 x3 z0 zf
      have hcl : ∀ base u wx, Below w5.heap.size w5 wx → w5.heap.size ≤ base → base ≤ wx.heap.size → PropRow wx base u T[k].props → Calls Tryz.prog 115 (#[u] ++ #[.pointer (some ⟨w3.heap.size, 0, none⟩)]) wx fun e w' => ∃ v', e = .returned v' ∧ PropRow w' base v' (delP T[k].props (lowT T[k].props name)) ∧ Keeps (fun b => u.ownBlock = some b) wx w' :=
        fun base u wx hbx _ _ hr => tree_Delete1 base w3.heap.size (lowT T[k].props name) u T[k].props wx hr hpl hlt (hN3.keeps (Keeps.of_fresh hbx (fun _ => False)) (fun e => e))
      have hch := Lib.hid (tree_changed (fun g => g < w.heap.size) (.slice (some ⟨g, o, none⟩) T.length cap) T k 115 _ (delP T[k].props (lowT T[k].props name)) w5 hT5 HCK.out hk enters_Delete1 hcl)
      have HZ3 := Lib.hid hZ3
      have HB4 := Lib.hid hb5
      clear hcl hX3 hN3 hT5 hb3 kk3 hX1 hZ1 hT1 hb2 q0 q1 q2 hb4 hb5 hZ3 x0 HPR
      go_upto_region 7 with fail
      rw [← hw5]
      clear hw5
      go_wp2_with fail
      refine hch.out.mono ?_
      rintro e w6 ⟨v5, rfl, hr5, hb6⟩
      obtain ⟨sa, sc, rfl⟩ := tree_slice hr5
      have hZ5 := HZ3.out.keeps (Keeps.of_fresh hb6 (fun _ => False)) (fun e => e)
      have z5 := hZ5.cell 0
      have f5 := hZ5.free 0
      have r5 := (hr5.base (HB4.out.size)).set hZ5 (by decide) (by decide) 0 (.slice sa (T.set k ⟨T[k].parent, T[k].name, delP T[k].props (lowT T[k].props name)⟩).length sc)
      have b5 := (HB4.out.trans (hb6.mono HB4.out.size)).setCell (p := ⟨w.heap.size + 1, 0, none⟩) (by simp) (.slice sa (T.set k ⟨T[k].parent, T[k].name, delP T[k].props (lowT T[k].props name)⟩).length sc)
      have c5 := (hZ5.set 0 (.slice sa (T.set k ⟨T[k].parent, T[k].name, delP T[k].props (lowT T[k].props name)⟩).length sc)).cell 0
      have HF5 := Lib.hid (And.intro r5 (And.intro b5 c5))
      clear r5 b5 c5 hr5 hZ5 hb6 hch
      generalize (T.set k ⟨T[k].parent, T[k].name, delP T[k].props (lowT T[k].props name)⟩) = T5 at *
      generalize hl5 : T5.length = n5 at *
      go_wp2_with fail
      exact bodyPost_ret (v := .tuple #[.agg #[.slice sa n5 sc], .int .i64 0]) (by simp [results, Tryz.results60, go_sem, HF5.out.2.2]) rfl ⟨_, by rw [hF.out], by rw [hF.out]; exact HF5.out.1, HF5.out.2.1⟩
end Go.Proofs.YtjfkjnakmmkkiaaGreat

open Go
namespace Go.Proofs.YtjfkjnakmmkkiaaGreat

structure SubOk (L : List NodeT) (O : List Nat) : Prop where
  asc : O.Pairwise (· < ·)
  lt : ∀ k ∈ O, k < L.length
  zero : 0 ∈ O
  par : ∀ k ∈ O, 0 < k → parN L k ∈ O
def subN (L : List NodeT) (O : List Nat) (k : Nat) : NodeT := ⟨if k = 0 then parOf L 0 else ((O.idxOf (parN L k) : Nat) : Int), nameOf L k, propsOf L k⟩
def subT (L : List NodeT) (O : List Nat) : List NodeT := O.map (subN L O)
theorem asc_ge {O : List Nat} (h : O.Pairwise (· < ·)) : ∀ i (hi : i < O.length), i ≤ O[i] := by
  intro i
  induction i with
  | zero => intro _; omega
  | succ i ih =>
    intro hi
    have := ih (by omega)
    have h2 := (List.pairwise_iff_getElem.1 h) i (i + 1) (by omega) hi (by omega)
    omega
theorem asc_nodup {O : List Nat} (h : O.Pairwise (· < ·)) : O.Nodup := h.imp (fun hab e => by omega)
theorem asc_idx {O : List Nat} (h : O.Pairwise (· < ·)) {a b : Nat} (ha : a ∈ O) (hb : b ∈ O) (hab : a < b) : O.idxOf a < O.idxOf b := by
  obtain ⟨i, hi, rfl⟩ := List.getElem_of_mem ha
  obtain ⟨j, hj, rfl⟩ := List.getElem_of_mem hb
  rw [idx_at (asc_nodup h) i hi, idx_at (asc_nodup h) j hj]
  rcases Nat.lt_trichotomy i j with e | e | e
  · exact e
  · subst e; omega
  · have := (List.pairwise_iff_getElem.1 h) j i hj hi e; omega
theorem dep_mono1 (T : List NodeT) : ∀ (f : Nat) (u : Int), depF T f u ≤ depF T (f + 1) u := by
  intro f
  induction f with
  | zero => intro u; exact Nat.zero_le _
  | succ f ih =>
    intro u
    unfold depF
    split
    · exact Nat.add_le_add_right (ih _) 1
    · exact Nat.le_refl _
theorem dep_mono (T : List NodeT) (u : Int) (f g : Nat) (h : f ≤ g) : depF T f u ≤ depF T g u := by
  induction h with
  | refl => exact Nat.le_refl _
  | step _ ih => exact Nat.le_trans ih (dep_mono1 T _ u)
section
variable {L : List NodeT} {O : List Nat}
theorem SubOk.len (h : SubOk L O) : O.length ≤ L.length := by
  by_cases e : O.length ≤ L.length
  · exact e
  · have h1 := asc_ge h.asc (O.length - 1) (by omega)
    have h2 := h.lt _ (List.getElem_mem (show O.length - 1 < O.length by omega))
    omega
theorem SubOk.pos (h : SubOk L O) : 0 < O.length := List.length_pos_of_mem h.zero
theorem SubOk.first (h : SubOk L O) : O[0]'h.pos = 0 := by
  obtain ⟨j, hj, e⟩ := List.getElem_of_mem h.zero
  have h1 := asc_ge h.asc j hj
  have : j = 0 := by omega
  subst this; exact e
theorem sub_len : (subT L O).length = O.length := by unfold subT; simp
theorem sub_at (i : Nat) (hi : i < O.length) : (subT L O)[i]'(by rw [sub_len]; exact hi) = subN L O O[i] := by simp [subT]
/-- A kept node: its place, its name, its properties, and where its parent comes to lie. -/
theorem SubOk.facts (h : SubOk L O) (hP : Par L) (hr : parOf L 0 = -1) (i : Nat) (hi : i < O.length) : nameOf (subT L O) i = nameOf L O[i] ∧ propsOf (subT L O) i = propsOf L O[i] ∧ (i = 0 → O[i] = 0 ∧ parOf (subT L O) i = -1) ∧
    (0 < i → 0 < O[i] ∧ parOf (subT L O) i = ((O.idxOf (parN L O[i]) : Nat) : Int) ∧ O.idxOf (parN L O[i]) < i ∧ O[O.idxOf (parN L O[i])]? = some (parN L O[i])) := by
  have hs : i < (subT L O).length := by rw [sub_len]; exact hi
  have hol := h.lt _ (List.getElem_mem hi)
  refine ⟨by rw [nameOf_at hs, sub_at i hi]; rfl, by rw [propsOf_at hs, sub_at i hi]; rfl, fun e => ?_, fun e => ?_⟩
  · subst e
    have hf := h.first
    refine ⟨hf, ?_⟩
    rw [parOf_at hs, sub_at 0 hi, hf]
    show (if (0 : Nat) = 0 then parOf L 0 else ((O.idxOf (parN L 0) : Nat) : Int)) = -1
    rw [if_pos rfl, hr]
  · have hpos : 0 < O[i] := by have := asc_ge h.asc i hi; omega
    have hmem := h.par _ (List.getElem_mem hi) hpos
    have hlt := (parN_lt hP hpos hol).1
    have hidx := asc_idx h.asc hmem (List.getElem_mem hi) hlt
    rw [idx_at (asc_nodup h.asc) i hi] at hidx
    refine ⟨hpos, ?_, hidx, ?_⟩
    · rw [parOf_at hs, sub_at i hi]
      show (if O[i] = 0 then parOf L 0 else ((O.idxOf (parN L O[i]) : Nat) : Int)) = _
      rw [if_neg (by omega)]
    · rw [List.getElem?_eq_getElem (List.idxOf_lt_length_iff.2 hmem)]
      simp
theorem SubOk.shape (h : SubOk L O) (hP : Par L) (hr : parOf L 0 = -1) : Shape (subT L O) := by
  refine ⟨by rw [sub_len]; exact h.pos, fun i h0 hi => ?_, ?_⟩
  · rw [sub_len] at hi
    obtain ⟨_, _, _, f⟩ := h.facts hP hr i hi
    obtain ⟨_, f2, f3, _⟩ := f h0
    rw [f2]; omega
  · exact ((h.facts hP hr 0 h.pos).2.2.1 rfl).2
theorem SubOk.pc (h : SubOk L O) (hP : Par L) (hr : parOf L 0 = -1) : ∀ (n i : Nat) (_ : i ≤ n) (hi : i < O.length), pc (subT L O) i = (Go.Proofs.YtjfkjnakmmkkiaaGreat.pc L O[i]).map (fun c => (c.1, O.idxOf c.2)) := by
  have hsh := h.shape hP hr
  intro n
  induction n with
  | zero =>
    intro i hn hi
    obtain rfl : i = 0 := by omega
    rw [h.first]; rfl
  | succ n ih =>
    intro i hn hi
    by_cases h0 : i = 0
    · subst h0; rw [h.first]; rfl
    · obtain ⟨f1, _, _, f⟩ := h.facts hP hr i hi
      obtain ⟨k0, hpS, hlt, hg⟩ := f (by omega)
      have hol := h.lt _ (List.getElem_mem hi)
      rw [pc_succ hsh.2.1 (by omega) (by rw [sub_len]; exact hi), pc_succ hP k0 hol, List.map_append]
      have e : parN (subT L O) i = O.idxOf (parN L O[i]) := by
        show (parOf (subT L O) i).toNat = _
        rw [hpS]; simp
      have e2 : O[O.idxOf (parN L O[i])]'(by omega) = parN L O[i] := by
        rw [List.getElem?_eq_getElem (show O.idxOf (parN L O[i]) < O.length by omega)] at hg
        exact Option.some.inj hg
      rw [e, ih _ (by omega) (by omega), e2, f1]
      simp [idx_at (asc_nodup h.asc) i hi]
theorem SubOk.dis (h : SubOk L O) (hP : Par L) (hr : parOf L 0 = -1) (hD : Dis L) : Dis (subT L O) := by
  intro x y x0 hx y0 hy hp hn
  rw [sub_len] at hx hy
  obtain ⟨n1, _, _, f⟩ := h.facts hP hr x hx
  obtain ⟨n2, _, _, g⟩ := h.facts hP hr y hy
  obtain ⟨k0, p1, _, g1⟩ := f x0
  obtain ⟨m0, p2, _, g2⟩ := g y0
  rw [p1, p2] at hp
  have e : O.idxOf (parN L O[x]) = O.idxOf (parN L O[y]) := by omega
  rw [e, g2] at g1
  have e2 : parN L O[y] = parN L O[x] := Option.some.inj g1
  have hxl := h.lt _ (List.getElem_mem hx)
  have hyl := h.lt _ (List.getElem_mem hy)
  have := hD O[x] O[y] k0 hxl m0 hyl (by rw [← (parN_lt hP k0 hxl).2, ← (parN_lt hP m0 hyl).2, e2]) (by rw [← n1, ← n2, hn])
  have i1 := idx_at (asc_nodup h.asc) x hx
  have i2 := idx_at (asc_nodup h.asc) y hy
  rw [this] at i1
  omega
theorem SubOk.ascT (h : SubOk L O) (hP : Par L) (hr : parOf L 0 = -1) (hD : Dis L) (hA : Asc L) : Asc (subT L O) := by
  intro i h0 hi
  rw [sub_len] at hi
  have hlt := (List.pairwise_iff_getElem.1 h.asc) (i - 1) i (by omega) hi (by omega)
  have ha := h.lt _ (List.getElem_mem (show i - 1 < O.length by omega))
  have hb := h.lt _ (List.getElem_mem hi)
  have hp := asc_all hA O[i] O[i - 1] hlt hb
  unfold ltI at hp ⊢
  rw [h.pc hP hr _ (i - 1) (Nat.le_refl _) (by omega), h.pc hP hr _ i (Nat.le_refl _) hi]
  refine ltP_map _ _ _ (fun r x y p' q' e1 e2 hc => ?_) hp
  obtain ⟨x0, xl, xn, xp⟩ := pc_part hP _ _ (Nat.le_refl _) ha r x p' e1
  obtain ⟨y0, yl, yn, yp⟩ := pc_part hP _ _ (Nat.le_refl _) hb r y q' e2
  rcases hc with hc | ⟨hc, hc2⟩
  · exact .inl hc
  · exfalso
    have px := parN_lt hP x0 xl
    have py := parN_lt hP y0 yl
    have e := pc_inj hP (show parN L x.2 < L.length by omega) (show parN L y.2 < L.length by omega) (xp.trans yp.symm)
    have := hD x.2 y.2 x0 xl y0 yl (by rw [← px.2, ← py.2, e]) (by rw [← xn, ← yn, hc])
    omega
theorem SubOk.dep (h : SubOk L O) (hP : Par L) (hr : parOf L 0 = -1) : ∀ (f i : Nat) (hi : i < O.length), depF (subT L O) f i = depF L f O[i] := by
  intro f
  induction f with
  | zero => intro i hi; rfl
  | succ f ih =>
    intro i hi
    unfold depF
    by_cases h0 : i = 0
    · subst h0; rw [h.first]; simp
    · obtain ⟨_, _, _, g⟩ := h.facts hP hr i hi
      obtain ⟨k0, hpS, hlt, hg⟩ := g (by omega)
      rw [if_pos (by omega), if_pos (by omega)]
      simp only [Int.toNat_natCast]
      have hol := h.lt _ (List.getElem_mem hi)
      have e2 : O[O.idxOf (parN L O[i])]'(by omega) = parN L O[i] := by
        rw [List.getElem?_eq_getElem (show O.idxOf (parN L O[i]) < O.length by omega)] at hg
        exact Option.some.inj hg
      rw [hpS, ih _ (by omega), e2, ← (parN_lt hP k0 hol).2]
theorem SubOk.valid (h : SubOk L O) (hc : checkT L = 0) : checkT (subT L O) = 0 := by
  have hp := check_parts hc
  have h0 : 0 < L.length := h.lt 0 h.zero
  have hP := par_of_named hp.2.1
  have hr := named_root hp.2.1 h0
  have hD := dis_check hc
  have hA := ((walked_iff hP hr).1 hp.2.2.1).2
  have hS := h.shape hP hr
  have hlen := h.len
  have hl2 := (limits_len hp.1).2
  have hnamed : namedT (subT L O) = true := by
    refine named_of _ 0 fun k hk => ?_
    have hkO : k < O.length := by rw [sub_len] at hk; exact hk
    obtain ⟨n1, n2, n3, n4⟩ := h.facts hP hr k hkO
    have hol := h.lt _ (List.getElem_mem hkO)
    have hat := named_at L 0 hp.2.1 O[k] hol
    rw [Nat.zero_add] at hat ⊢
    rw [nameOf_at hk, nameOf_at hol] at n1
    rw [propsOf_at hk, propsOf_at hol] at n2
    refine ⟨?_, by rw [n2]; exact hat.2⟩
    have hh := hat.1
    unfold headB at hh ⊢
    by_cases e : k = 0
    · rw [if_pos e]
      obtain ⟨z1, z2⟩ := n3 e
      rw [if_pos z1] at hh
      rw [parOf_at hk] at z2
      rw [z2, n1]
      rw [Bool.and_eq_true] at hh
      rw [hh.2]; rfl
    · obtain ⟨k0, p1, p2, _⟩ := n4 (by omega)
      rw [if_neg e]
      rw [if_neg (by omega), Bool.and_eq_true] at hh
      rw [parOf_at hk] at p1
      rw [p1, n1, hh.2]
      simp; omega
  refine check_of ⟨?_, hnamed, ?_, ?_, ?_⟩
  · unfold limitsT
    rw [Bool.and_eq_true, List.all_eq_true]
    have hpos := h.pos
    refine ⟨by rw [sub_len]; simp; omega, fun n hn => ?_⟩
    obtain ⟨k, hk, rfl⟩ := List.getElem_of_mem hn
    have hkO : k < O.length := by rw [sub_len] at hk; exact hk
    obtain ⟨_, n2, _, _⟩ := h.facts hP hr k hkO
    have hol := h.lt _ (List.getElem_mem hkO)
    rw [propsOf_at hk, propsOf_at hol] at n2
    have := hp.1
    unfold limitsT at this
    rw [Bool.and_eq_true] at this
    have := List.all_eq_true.1 this.2 _ (List.getElem_mem hol)
    unfold fitB at this ⊢
    rw [n2]; exact this
  · refine (walked_iff hS.2.1 hS.2.2).2 ⟨fun j hj => ?_, h.ascT hP hr hD hA⟩
    have hkO : j < O.length := by rw [sub_len] at hj; exact hj
    obtain ⟨_, n2, _, _⟩ := h.facts hP hr j hkO
    rw [n2]
    exact ((walked_iff hP hr).1 hp.2.2.1).1 _ (h.lt _ (List.getElem_mem hkO))
  · rw [twin_dup hnamed]
    unfold dupAny
    rw [List.any_eq_false]
    intro i hi hd
    rw [List.mem_range] at hi
    obtain ⟨c, c0, ci, hp1, hm⟩ := (dupF_iff _ i i).1 hd
    have := h.dis hP hr hD c i c0 (by omega) (by omega) hi hp1 hm
    omega
  · unfold deepT
    rw [List.any_eq_false]
    intro i hi
    rw [List.mem_range] at hi
    have hiO : i < O.length := by rw [sub_len] at hi; exact hi
    have hol := h.lt _ (List.getElem_mem hiO)
    have hdp := deep_check hc O[i] hol
    unfold depT
    rw [h.dep hP hr _ i hiO]
    have := dep_mono L O[i] O.length L.length hlen
    rw [sub_len]
    simp; omega
end
end Go.Proofs.YtjfkjnakmmkkiaaGreat

open Go
namespace Go.Proofs.YtjfkjnakmmkkiaaGreat

def remF (T : List NodeT) (a : Nat) : Nat → Nat → Bool
  | 0, i => i == a
  | f + 1, i => i == a || (decide (0 < i) && remF T a f (parN T i))
/-- Is node i a, or below it? -/
def remB (T : List NodeT) (a i : Nat) : Bool := remF T a i i
theorem remF_und {T : List NodeT} (h : Par T) {a : Nat} (ha : a < T.length) : ∀ (f i : Nat), i ≤ f → i < T.length → (remF T a f i = true ↔ Und T a i) := by
  intro f
  induction f with
  | zero =>
    intro i hi hil
    obtain rfl : i = 0 := by omega
    unfold remF
    rw [beq_iff_eq]
    constructor
    · rintro rfl; exact und_refl _ _
    · intro hu; have := und_le h ha 0 0 (Nat.le_refl _) hil hu; omega
  | succ f ih =>
    intro i hi hil
    unfold remF
    rw [Bool.or_eq_true, beq_iff_eq, Bool.and_eq_true, decide_eq_true_iff]
    by_cases h0 : i = 0
    · subst h0
      constructor
      · rintro (rfl | ⟨h1, _⟩)
        · exact und_refl _ _
        · omega
      · intro hu; have := und_le h ha 0 0 (Nat.le_refl _) hil hu; left; omega
    · have hp := parN_lt h (by omega) hil
      rw [ih _ (by omega) (by omega), und_step h ha (by omega) hil]
      constructor
      · rintro (e | ⟨_, e⟩)
        · exact .inl e.symm
        · exact .inr e
      · rintro (e | e)
        · exact .inl e.symm
        · exact .inr ⟨by omega, e⟩
theorem remB_und {T : List NodeT} (h : Par T) {a i : Nat} (ha : a < T.length) (hi : i < T.length) : remB T a i = true ↔ Und T a i := remF_und h ha i i (Nat.le_refl _) hi
theorem remB_step {T : List NodeT} (h : Par T) {a i : Nat} (ha : a < T.length) (hi : i < T.length) : remB T a i = (i == a || (decide (0 < i) && remB T a (parN T i))) := by
  by_cases h0 : i = 0
  · subst h0; simp [remB, remF]
  · have hp := parN_lt h (by omega) hi
    have e : ∀ (x y : Bool), (x = true ↔ y = true) → x = y := by decide
    apply e
    rw [remB_und h ha hi, und_step h ha (by omega) hi, Bool.or_eq_true, beq_iff_eq, Bool.and_eq_true, decide_eq_true_iff, remB_und h ha (by omega)]
    constructor
    · rintro (e | e)
      · exact .inl e.symm
      · exact .inr ⟨by omega, e⟩
    · rintro (e | ⟨_, e⟩)
      · exact .inl e.symm
      · exact .inr e
def keepO (T : List NodeT) (a k : Nat) : List Nat := (List.range k).filter fun i => !remB T a i
def plcT (T : List NodeT) (a i : Nat) : Int := if remB T a i = true then -1 else ((keepO T a i).length : Int)
def keepNode (T : List NodeT) (a i : Nat) : NodeT := ⟨if i = 0 then parOf T 0 else plcT T a (parN T i), nameOf T i, propsOf T i⟩
def keepN (T : List NodeT) (a k : Nat) : List NodeT := (keepO T a k).map (keepNode T a)
theorem keepO_yes {T : List NodeT} {a k : Nat} (h : remB T a k = false) : keepO T a (k + 1) = keepO T a k ++ [k] := by
  unfold keepO; rw [List.range_succ, List.filter_append]; simp [h]
theorem keepO_no {T : List NodeT} {a k : Nat} (h : remB T a k = true) : keepO T a (k + 1) = keepO T a k := by
  unfold keepO; rw [List.range_succ, List.filter_append]; simp [h]
theorem keepO_len (T : List NodeT) (a k : Nat) : (keepO T a k).length ≤ k := by
  unfold keepO; exact Nat.le_trans (List.length_filter_le _ _) (by simp)
theorem keepO_mem {T : List NodeT} {a k i : Nat} : i ∈ keepO T a k ↔ i < k ∧ remB T a i = false := by
  unfold keepO; simp
theorem keepO_asc (T : List NodeT) (a k : Nat) : (keepO T a k).Pairwise (· < ·) := by
  unfold keepO; exact List.Pairwise.filter _ List.pairwise_lt_range
theorem keepO_idx {T : List NodeT} {a j : Nat} (h : remB T a j = false) : ∀ k, j < k → (keepO T a k).idxOf j = (keepO T a j).length := by
  intro k
  induction k with
  | zero => intro h; omega
  | succ k ih =>
    intro hj
    by_cases e : j = k
    · subst e
      rw [keepO_yes h, List.idxOf_append, if_neg (by rw [keepO_mem]; omega)]
      simp
    · cases hk : remB T a k with
      | true => rw [keepO_no hk]; exact ih (by omega)
      | false =>
        rw [keepO_yes hk, List.idxOf_append, if_pos (keepO_mem.2 ⟨by omega, h⟩)]
        exact ih (by omega)
theorem keep_subok {T : List NodeT} (hP : Par T) {a : Nat} (ha : a < T.length) (a0 : a ≠ 0) : SubOk T (keepO T a T.length) := by
  have hz : remB T a 0 = false := by
    cases e : remB T a 0 with
    | false => rfl
    | true => have := und_le hP ha 0 0 (Nat.le_refl _) (by omega) ((remB_und hP ha (by omega)).1 e); omega
  refine ⟨keepO_asc _ _ _, fun k hk => (keepO_mem.1 hk).1, keepO_mem.2 ⟨by omega, hz⟩, fun k hk h0 => ?_⟩
  obtain ⟨h1, h2⟩ := keepO_mem.1 hk
  have hp := parN_lt hP h0 h1
  refine keepO_mem.2 ⟨by omega, ?_⟩
  rw [remB_step hP ha h1] at h2
  cases e : remB T a (parN T k) with
  | false => rfl
  | true => rw [e] at h2; simp [h0] at h2
theorem keep_sub {T : List NodeT} (hP : Par T) {a : Nat} (ha : a < T.length) (a0 : a ≠ 0) : keepN T a T.length = subT T (keepO T a T.length) := by
  have hs := keep_subok hP ha a0
  unfold keepN subT
  apply List.map_congr_left
  intro i hi
  unfold keepNode subN
  by_cases h0 : i = 0
  · rw [if_pos h0, if_pos h0]
  · rw [if_neg h0, if_neg h0]
    have hm := keepO_mem.1 (hs.par i hi (by omega))
    unfold plcT
    rw [if_neg (by rw [hm.2]; decide), keepO_idx hm.2 _ hm.1]
/-- What Remove returns. -/
def removeT (T : List NodeT) (s : ByteArray) : List NodeT × Int :=
  if (rBeginT T s).2 ≠ 0 then ([], (rBeginT T s).2) else if (rBeginT T s).1 = 0 then ([], 1) else (subT T (keepO T (rBeginT T s).1.toNat T.length), 0)
theorem remove_ok {T : List NodeT} {s : ByteArray} {k : Nat} (hb : rBeginT T s = ((k : Int), 0)) : removeT T s = if k = 0 then ([], 1) else (subT T (keepO T k T.length), 0) := by
  unfold removeT; rw [hb, if_neg (by simp)]
  by_cases h : k = 0
  · subst h; rfl
  · rw [if_neg (by simpa using h), if_neg h]; rfl
def plArr (T : List NodeT) (a k : Nat) : Array Value := ((List.range T.length).map fun i => Value.int .i64 (if i < k then plcT T a i else 0)).toArray
theorem plArr_at (T : List NodeT) (a k i : Nat) (h : i < T.length) : (plArr T a k)[i]? = some (.int .i64 (if i < k then plcT T a i else 0)) := by unfold plArr; simp [h]
theorem plArr_zero (T : List NodeT) (a : Nat) : plArr T a 0 = Array.replicate T.length (.int .i64 0) := by
  unfold plArr
  apply Array.ext
  · simp
  · intro i h1 h2; simp
theorem plArr_set (T : List NodeT) (a k : Nat) (_ : k < T.length) : (plArr T a k).setIfInBounds k (.int .i64 (plcT T a k)) = plArr T a (k + 1) := by
  unfold plArr
  apply Array.ext
  · simp
  · intro i h1 h2
    simp at h1
    rw [Array.getElem_setIfInBounds (by simpa using h1)]
    by_cases e : k = i
    · subst e; simp
    · have : (i < k) = (i < k + 1) := by apply propext; omega
      simp [e, this]
end Go.Proofs.YtjfkjnakmmkkiaaGreat

namespace Go.Proofs.YtjfkjnakmmkkiaaGreat
open Go.RowKit

theorem keep_valid {T : List NodeT} (hc : checkT T = 0) {a : Nat} (ha : a < T.length) (a0 : a ≠ 0) : checkT (subT T (keepO T a T.length)) = 0 :=
  (keep_subok (par_of_named (check_parts hc).2.1) ha a0).valid hc
theorem remB_self {T : List NodeT} (h : Par T) {a : Nat} (ha : a < T.length) : remB T a a = true := by rw [remB_step h ha ha]; simp
theorem remB_zero {T : List NodeT} (h : Par T) {a : Nat} (ha : a < T.length) (a0 : a ≠ 0) : remB T a 0 = false := by
  rw [remB_step h ha (by omega)]; simp; omega
theorem plcT_bd (T : List NodeT) (a i : Nat) : -1 ≤ plcT T a i ∧ plcT T a i ≤ i := by
  unfold plcT
  split
  · omega
  · have := keepO_len T a i; omega
def pvAt (w : World) (g o i : Nat) : Value := (w.cell? ⟨g, o + i * 3 + 2, none⟩).getD undef
def RemW (T : List NodeT) (a g o gP n cap : Nat) (W : World) (f : Nat) (x y : Value) (wr : World) : Prop :=
  ∃ i : Nat, y = .int .i64 i ∧ i ≤ T.length ∧ T.length ≤ i + f ∧ wr.ownsRow W.heap.size 76 3 x (keepO T a i).length (nodeCells (keepN T a i) ((keepO T a i).map (pvAt W g o))) ∧
    Holds wr gP (plArr T a i) 3 ∧ Holds wr W.heap.size #[.slice (some ⟨g, o, none⟩) n cap] 25 ∧ Holds wr (W.heap.size + 1) #[.slice none 0 0] 25 ∧ Below W.heap.size W wr

set_option maxRecDepth 100000 in
set_option maxHeartbeats 4000000 in
theorem tree_Remove (R : Nat → Prop) (v : Value) (T : List NodeT) (s : ByteArray) (w : World) (hT : NodesIn R w v T) :
    Calls Tryz.prog 62 #[.agg #[v], .string s] w (EditPost (removeT T s) w) := by
  obtain ⟨a, cap, rfl, hc1, hc2⟩ := hT.shape
  have HT := Lib.hid hT.bound; clear hT
  have hbg := fun wx hx => tree_begin (fun g => g < w.heap.size) (.slice a T.length cap) T s wx hx
  obtain ⟨W0, hW0⟩ : ∃ W0, W0 = (w.alloc (.cells #[.slice a T.length cap] 25)).alloc (.cells #[.slice none 0 0] 25) := ⟨_, rfl⟩
  have hb0 : Below w.heap.size w W0 := by rw [hW0]; exact ((Below.refl _ _).alloc (Nat.le_refl _) _).alloc (by simp) _
  have hX0 : Holds W0 w.heap.size #[.slice a T.length cap] 25 := by rw [hW0]; exact (Holds.new w #[.slice a T.length cap] 25).alloc _
  have hZ0 : Holds W0 (w.heap.size + 1) #[.slice none 0 0] 25 := by rw [hW0]; exact Holds.newAt (w := w.alloc (.cells #[.slice a T.length cap] 25)) (B := w.heap.size + 1) (by simp) #[.slice none 0 0] 25
  have hT0 : NodesIn (fun g => g < w.heap.size) W0 (.slice a T.length cap) T := HT.out.new hb0
  have hsz0 := hb0.size
  have hzl := hZ0.lt
  rcases begin_cases T s with ⟨hne, h10⟩ | ⟨hck, k, hk, hbe, hps⟩
  · have hE := Lib.hid (show removeT T s = ([], (rBeginT T s).2) from by unfold removeT; rw [if_pos hne])
    have hne' : ((rBeginT T s).2 != 0) = true := by simpa using hne
    rw [h10] at hbg
    have HBG := Lib.hid hbg
    clear hbg hne h10
    generalize (rBeginT T s).2 = c at *
    go_enter Tryz.func62, Tryz.ntmps62
    go_wp2_with fail
    rw [← hW0]
    refine (HBG.out _ (by exact hT0)).mono ?_
    rintro e w1 ⟨rfl, hb1⟩
    have hZ1 := hZ0.keeps (Keeps.of_fresh hb1 (fun _ => False)) (fun e => e)
    have hb2 := hb0.trans (hb1.mono hsz0)
    have z0 := hZ1.cell 0
    have zf := hZ1.free 0
    go_wp2_with fail
    have q0 : (w1.setCell ⟨w.heap.size + 1, 0, none⟩ (.slice none 0 0)).cell? ⟨w.heap.size + 1, 0, none⟩ = some (.slice none 0 0) := (hZ1.set 0 _).cell 0
    exact bodyPost_ret (v := .tuple #[.agg #[.slice none 0 0], .int .i64 c]) (by simp [results, Tryz.results62, go_sem, q0]) rfl ⟨_, by rw [hE.out], by rw [hE.out]; exact TreeRow.nil _ _, hb2.setCell (p := ⟨w.heap.size + 1, 0, none⟩) (by simp) _⟩
  · rw [hbe] at hbg
    have HBG := Lib.hid hbg
    have hE := Lib.hid (remove_ok hbe)
    clear hbg hbe
    by_cases hk0 : k = 0
    · subst hk0
      have hF := Lib.hid (show removeT T s = ([], 1) from by rw [hE.out, if_pos rfl])
      clear hE
      go_enter Tryz.func62, Tryz.ntmps62
      go_wp2_with fail
      rw [← hW0]
      refine (HBG.out _ (by exact hT0)).mono ?_
      rintro e w1 ⟨rfl, hb1⟩
      have hZ1 := hZ0.keeps (Keeps.of_fresh hb1 (fun _ => False)) (fun e => e)
      have hb2 := hb0.trans (hb1.mono hsz0)
      have z0 := hZ1.cell 0
      have zf := hZ1.free 0
      go_wp2_with fail
      have q0 : (w1.setCell ⟨w.heap.size + 1, 0, none⟩ (.slice none 0 0)).cell? ⟨w.heap.size + 1, 0, none⟩ = some (.slice none 0 0) := (hZ1.set 0 _).cell 0
      exact bodyPost_ret (v := .tuple #[.agg #[.slice none 0 0], .int .i64 1]) (by simp [results, Tryz.results62, go_sem, q0]) rfl ⟨_, by rw [hF.out], by rw [hF.out]; exact TreeRow.nil _ _, hb2.setCell (p := ⟨w.heap.size + 1, 0, none⟩) (by simp) _⟩
    · have hF := Lib.hid (show removeT T s = (subT T (keepO T k T.length), 0) from by rw [hE.out, if_neg hk0])
      have hl2 := (limits_len (check_limits hck)).2
      have hpar := par_of_named (check_parts hck).2.1
      have hkb : ((k : Int) == 0) = false := by rw [beq_eq_false_iff_ne]; omega
      obtain ⟨g, o, _, _, hae, hg, -⟩ := HT.out.at 0 (by omega)
      subst hae
      have HCK := Lib.hid hck
      have hmi := fun wx => make_ints T.length (by omega) wx
      clear hE hck
      go_enter Tryz.func62, Tryz.ntmps62
      go_wp2_with fail
      rw [← hW0]
      refine (HBG.out _ (by exact hT0)).mono ?_
      rintro e w1 ⟨rfl, hb1⟩
      have kk1 := Keeps.of_fresh hb1 (fun _ => False)
      have hX1 := hX0.keeps kk1 (fun e => e)
      have hZ1 := hZ0.keeps kk1 (fun e => e)
      have hb2 := hb0.trans (hb1.mono hsz0)
      have x0 := hX1.cell 0
      have x1 := (hX1.alloc (.cells (Array.replicate T.length (.int .i64 0)) 3)).cell 0
      have hb3 := hb2.alloc hb2.size (.cells (Array.replicate T.length (.int .i64 0)) 3)
      have hR0 : RemW T k g o w1.heap.size T.length cap w T.length (.slice none 0 0) (.int .i64 0) (w1.alloc (.cells (Array.replicate T.length (.int .i64 0)) 3)) :=
        ⟨0, rfl, by omega, by omega, World.ownsRow_nil _ _ _ _, by rw [plArr_zero]; exact Holds.new _ _ _, hX1.alloc _, hZ1.alloc _, hb3⟩
      have hgP : w.heap.size + 2 ≤ w1.heap.size := by have := hZ1.lt; omega
      clear hX0 hZ0 hT0 hb0 hb1 kk1 hZ1 hb2 hb3 HBG
      go_wp2_with fail
      generalize w1.heap.size = gP at *
      clear hX1 x0 x1 hmi
      go_loopg [8, 34] T.length (fun f x y wr => RemW T k g o gP T.length cap w f x y wr)
      case atStart => exact hR0
      case round =>
        clear hR0
        obtain ⟨i, rfl, hi1, hi2, hown, hP, hX, hZ, hb⟩ := hrel
        by_cases hlt : i < T.length
        · have hlt' : (i : Int) < T.length := by omega
          obtain ⟨g', o', pa, pc, hae', hgl, q0, q1, q2, hPP, hpc1, hpc2, hns, hp0, hp1⟩ := (HT.out.new hb).at i hlt
          injection hae' with hae'
          injection hae' with hg' ho'
          subst hg'
          subst ho'
          have hpv : pvAt w g o i = .slice pa T[i].props.length pc := by
            unfold pvAt
            rw [← hb.cell (p := ⟨g, o + i * 3 + 2, none⟩) hg, q2]; rfl
          have hkn : keepNode T k i = ⟨if i = 0 then parOf T 0 else plcT T k (parN T i), T[i].name, T[i].props⟩ := by unfold keepNode; rw [nameOf_at hlt, propsOf_at hlt]
          have hst := remB_step hpar hk hlt
          have hp00 : i = 0 → parOf T 0 = T[i].parent := fun e => by subst e; rw [parOf_at hlt]
          have hpp : 0 < i → T[i].parent = ((parN T i : Nat) : Int) ∧ parN T i < i := fun h0 => by
            have := parN_lt hpar h0 hlt
            rw [this.2, parOf_at hlt]; exact ⟨rfl, this.1⟩
          have hPl := Lib.hid hP
          have pf := hP.free i
          have pfl := hP.lt
          have p0 := (hP.cell i).trans (plArr_at T k i i hlt)
          have hkl := keepO_len T k i
          have hset := plArr_set T k i hlt
          have HOW := Lib.hid hown
          obtain ⟨xa, xc, rfl⟩ := row_slice hown
          have hbs := hb.size
          clear hown hP hPP hgl
          generalize T[i].parent = par at *
          generalize T[i].name = nm at *
          generalize T[i].props = prs at *
          -- the node's own copy, and the store of its place
          have hgX : gP ≠ w.heap.size := by omega
          have hgZ : gP ≠ w.heap.size + 1 := by omega
          have hgN : gP ≠ wr.heap.size := by omega
          have hput : ∀ (pr : Int) (x : Value),
              ((wr.setCell ⟨gP, i, none⟩ x).alloc (.cells #[.int .i64 pr, .string nm, .slice pa prs.length pc] 76)).ownsRow w.heap.size 76 3 (.slice xa (keepO T k i).length xc) (keepO T k i).length (nodeCells (keepN T k i) ((keepO T k i).map (pvAt w g o))) ∧
              Holds ((wr.setCell ⟨gP, i, none⟩ x).alloc (.cells #[.int .i64 pr, .string nm, .slice pa prs.length pc] 76)) gP ((plArr T k i).setIfInBounds i x) 3 ∧
              Holds ((wr.setCell ⟨gP, i, none⟩ x).alloc (.cells #[.int .i64 pr, .string nm, .slice pa prs.length pc] 76)) w.heap.size #[.slice (some ⟨g, o, none⟩) T.length cap] 25 ∧
              Holds ((wr.setCell ⟨gP, i, none⟩ x).alloc (.cells #[.int .i64 pr, .string nm, .slice pa prs.length pc] 76)) (w.heap.size + 1) #[.slice none 0 0] 25 ∧
              Holds ((wr.setCell ⟨gP, i, none⟩ x).alloc (.cells #[.int .i64 pr, .string nm, .slice pa prs.length pc] 76)) wr.heap.size #[.int .i64 pr, .string nm, .slice pa prs.length pc] 76 ∧
              Below w.heap.size w ((wr.setCell ⟨gP, i, none⟩ x).alloc (.cells #[.int .i64 pr, .string nm, .slice pa prs.length pc] 76)) := fun pr x => by
            have hb1 := hb.setCell (p := ⟨gP, i, none⟩) (by show w.heap.size ≤ gP; omega) x
            exact ⟨row_new (row_set HOW.out hPl.out (by decide) i x) ((Below.refl _ _).alloc (Nat.le_refl _) _), (hPl.out.set i x).alloc _, (hX.other _ _ (by show w.heap.size ≠ gP; omega)).alloc _, (hZ.other _ _ (by show w.heap.size + 1 ≠ gP; omega)).alloc _,
              Holds.newAt (w := wr.setCell ⟨gP, i, none⟩ x) (by simp) _ _, hb1.alloc hb1.size _⟩
          have HPUT := Lib.hid hput
          have hal : Below wr.heap.size wr (wr.alloc (.cells #[.int .i64 par, .string nm, .slice pa prs.length pc] 76)) := (Below.refl _ _).alloc (Nat.le_refl _) _
          have hN0 := Holds.new wr #[.int .i64 par, .string nm, .slice pa prs.length pc] 76
          have hP1 := hPl.out.alloc (.cells #[.int .i64 par, .string nm, .slice pa prs.length pc] 76)
          have pf1 := hP1.free i
          have p1 := (hP1.cell i).trans (plArr_at T k i i hlt)
          simp only [Nat.lt_irrefl, if_false] at p1
          -- what is removed
          have hrem : remB T k i = true → Hid (RemW T k g o gP T.length cap w (gk - 1) (.slice xa (keepO T k i).length xc) (.int .i64 ((i : Int) + 1)) ((wr.setCell ⟨gP, i, none⟩ (.int .i64 (-1))).alloc (.cells #[.int .i64 par, .string nm, .slice pa prs.length pc] 76))) := fun hr => Lib.hid (by
            obtain ⟨g1, g2, g3, g4, _, g6⟩ := HPUT.out par (.int .i64 (-1))
            refine ⟨i + 1, rfl, by omega, by omega, ?_, ?_, g3, g4, g6⟩
            · unfold keepN
              rw [keepO_no hr]; exact g1
            · have e : plcT T k i = -1 := by unfold plcT; rw [if_pos hr]
              have e2 : (plArr T k i).setIfInBounds i (.int .i64 (-1)) = plArr T k (i + 1) := by rw [← hset, e]
              rw [e2] at g2
              exact g2)
          -- what is kept, behind the store of its place
          have hkep : remB T k i = false → Hid (∀ (pr : Int), pr = (if i = 0 then parOf T 0 else plcT T k (parN T i)) → ∀ (w9 : World) (u : Value), w9.ownsRow w.heap.size 76 3 u ((keepO T k i).length + 1) (nodeCells (keepN T k i) ((keepO T k i).map (pvAt w g o)) ++ [.int .i64 pr, .string nm, .slice pa prs.length pc]) →
              w9.ownsRow w.heap.size 76 3 u (keepO T k (i + 1)).length (nodeCells (keepN T k (i + 1)) ((keepO T k (i + 1)).map (pvAt w g o)))) := fun hr => Lib.hid (fun pr hpr w9 u h => by
            unfold keepN at *
            rw [keepO_yes hr, List.map_append, List.map_append, List.map_singleton, List.map_singleton, nodeCells_snoc _ _ _ _ (by simp), hkn, hpv, List.length_append, List.length_singleton, ← hpr]
            exact h)
          have hplc : remB T k i = false → plcT T k i = ((keepO T k i).length : Int) := fun hr => by unfold plcT; rw [if_neg (by rw [hr]; decide)]
          have hkeep2 : remB T k i = false → ∀ pr : Int, pr = (if i = 0 then parOf T 0 else plcT T k (parN T i)) → Hid (
              (((wr.setCell ⟨gP, i, none⟩ (.int .i64 ((keepO T k i).length : Int))).alloc (.cells #[.int .i64 pr, .string nm, .slice pa prs.length pc] 76)).alloc (.cells #[.int .i64 pr, .string nm, .slice pa prs.length pc] 76)).ownsRow w.heap.size 76 3 (.slice xa (keepO T k i).length xc) (keepO T k i).length (nodeCells (keepN T k i) ((keepO T k i).map (pvAt w g o))) ∧
              ∀ u w9, w9.ownsRow w.heap.size 76 3 u ((keepO T k i).length + 1) (nodeCells (keepN T k i) ((keepO T k i).map (pvAt w g o)) ++ [.int .i64 pr, .string nm, .slice pa prs.length pc]) →
                (((wr.setCell ⟨gP, i, none⟩ (.int .i64 ((keepO T k i).length : Int))).alloc (.cells #[.int .i64 pr, .string nm, .slice pa prs.length pc] 76)).alloc (.cells #[.int .i64 pr, .string nm, .slice pa prs.length pc] 76)).grownBy w9 (Value.slice xa (keepO T k i).length xc).ownBlock →
                RemW T k g o gP T.length cap w (gk - 1) u (.int .i64 ((i : Int) + 1)) w9) := fun hr pr hpr => Lib.hid (by
            obtain ⟨g1, g2, g3, g4, _, g6⟩ := HPUT.out pr (.int .i64 ((keepO T k i).length : Int))
            rw [← hplc hr, hset, hplc hr] at g2
            have hal2 := (Below.refl ((wr.setCell ⟨gP, i, none⟩ (.int .i64 ((keepO T k i).length : Int))).alloc (.cells #[.int .i64 pr, .string nm, .slice pa prs.length pc] 76)).heap.size _).alloc (Nat.le_refl _) (.cells #[.int .i64 pr, .string nm, .slice pa prs.length pc] 76)
            have o1 := row_new g1 hal2
            refine ⟨o1, fun u w9 h9 hg9 => ?_⟩
            have hne : ∀ {b : Nat} {cs : Array Value} {t : TypeId}, Holds ((wr.setCell ⟨gP, i, none⟩ (.int .i64 ((keepO T k i).length : Int))).alloc (.cells #[.int .i64 pr, .string nm, .slice pa prs.length pc] 76)) b cs t → t ≠ 76 → Holds w9 b cs t := fun h ht =>
              (h.alloc _).grown hg9 (owns_ne_holds o1 (h.alloc _) ht)
            exact ⟨i + 1, rfl, by omega, by omega, (hkep hr).out pr hpr w9 u h9, hne g2 (by decide), hne g3 (by decide), hne g4 (by decide), (g6.alloc g6.size _).grown hg9 (by have := g6.size; simp at this ⊢; omega) (fun b e => (o1.lt b e).1)⟩)
          by_cases hik : i = k
          · have hr : remB T k i = true := by rw [hst, hik]; simp
            have HF := hrem hr
            have hikb : ((i : Int) == (k : Int)) = true := by rw [hik]; simp
            clear hrem hkep hplc hst hN0 HOW hPl hset hX hZ hb hal hik hput hkeep2
            go_wp2_with fail
            go_roundg (gk - 1)
            case measure => omega
            case rel => exact HF.out
          · have hikb : ((i : Int) == (k : Int)) = false := by rw [beq_eq_false_iff_ne]; omega
            have hikB : (i == k) = false := by rw [beq_eq_false_iff_ne]; exact hik
            rw [hikB, Bool.false_or] at hst
            obtain ⟨i0, hi, hz0, hz1, hz2⟩ := info_parts infoNd
            have hkl2 : (keepO T k i).length ≤ 120 := by omega
            by_cases hi0 : i = 0
            · have hr : remB T k i = false := by rw [hst, hi0]; simp
              have HK2 := hkeep2 hr par (by rw [if_pos hi0, hp00 hi0])
              have hig : ¬ (0 < (i : Int)) := by omega
              clear hkeep2 hrem hkep hplc hst hN0 HOW hPl hset hX hZ hb hal hik hput hi0
              go_wp2_with (at_builtin; refine wpList_append_own _ rfl _ _ 23 rfl w.heap.size 76 i0 (.agg #[.int .i64 0, .string ⟨#[]⟩, .slice none 0 0]) 3 48 Tryz.underlying23 hi hz0 hz1 hz2 rfl (by decide) _ (keepO T k i).length (nodeCells (keepN T k i) ((keepO T k i).map (pvAt w g o))) rfl (by exact HK2.out.1) ⟨wr.heap.size + 1, 0, none⟩ 1 1 [.int .i64 par, .string nm, .slice pa prs.length pc] rfl rfl (by exact new_cells _ _ _ (wr.heap.size + 1) (by simp) _ rfl) (by intro u hu; simp at hu; rcases hu with rfl | rfl | rfl <;> rfl) (by unfold maxLen; omega) (by omega) (by simp; omega) ?_)
              intro v' w9 hown9 hgrow _
              obtain ⟨ra', rc', rfl⟩ := row_slice hown9
              have HF := Lib.hid (HK2.out.2 _ w9 hown9 hgrow)
              clear hown9 hgrow HK2
              go_wp2_with fail
              go_roundg (gk - 1)
              case measure => omega
              case rel => exact HF.out
            · have h0 : 0 < i := by omega
              have h0' : (0 : Int) < (i : Int) := by omega
              obtain ⟨hpe, hpi⟩ := hpp h0
              have hpT : parN T i < T.length := by omega
              have hpT' : ((parN T i : Nat) : Int) < (T.length : Int) := by omega
              have hbd := plcT_bd T k (parN T i)
              have pp := (hP1.cell (parN T i)).trans (plArr_at T k i (parN T i) hpT)
              rw [if_pos hpi] at pp
              rw [show decide (0 < i) = true from by simpa using h0, Bool.true_and] at hst
              subst hpe
              cases hrp : remB T k (parN T i) with
              | true =>
                have HF := hrem (by rw [hst, hrp])
                have hpl : plcT T k (parN T i) = -1 := by unfold plcT; rw [if_pos hrp]
                rw [hpl] at pp
                clear hrem hkep hplc hst hN0 HOW hPl hset hX hZ hb hal hik hrp hbd hput hkeep2
                go_wp2_with fail
                go_roundg (gk - 1)
                case measure => omega
                case rel => exact HF.out
              | false =>
                have hr : remB T k i = false := by rw [hst, hrp]
                have hpl : plcT T k (parN T i) = ((keepO T k (parN T i)).length : Int) := by unfold plcT; rw [if_neg (by rw [hrp]; decide)]
                rw [hpl] at pp
                have hkp := keepO_len T k (parN T i)
                have HK2 := hkeep2 hr ((keepO T k (parN T i)).length : Int) (by rw [if_neg hi0, hpl])
                obtain ⟨-, g2, -, -, -, -⟩ := HPUT.out ((parN T i : Nat) : Int) (.int .i64 ((keepO T k i).length : Int))
                have pp2 := (g2.cell (parN T i)).trans ((Array.getElem?_setIfInBounds_ne (by omega)).trans (plArr_at T k i (parN T i) hpT))
                rw [if_pos hpi, hpl] at pp2
                clear hkeep2 hrem hkep hplc hst hN0 HOW hPl hset hX hZ hb hal hik hput hbd g2 hrp hpl
                go_wp2_with (at_builtin; (refine wpList_append_own _ rfl _ _ 23 rfl w.heap.size 76 i0 (.agg #[.int .i64 0, .string ⟨#[]⟩, .slice none 0 0]) 3 48 Tryz.underlying23 hi hz0 hz1 hz2 rfl (by decide) _ (keepO T k i).length (nodeCells (keepN T k i) ((keepO T k i).map (pvAt w g o))) rfl (by exact HK2.out.1) ⟨wr.heap.size + 1, 0, none⟩ 1 1 [.int .i64 ((keepO T k (parN T i)).length : Int), .string nm, .slice pa prs.length pc] rfl rfl (by exact new_cells _ _ _ (wr.heap.size + 1) (by simp) _ rfl) (by intro u hu; simp at hu; rcases hu with rfl | rfl | rfl <;> rfl) (by unfold maxLen; omega) (by omega) (by simp; omega) ?_))
                intro v' w9 hown9 hgrow _
                obtain ⟨ra', rc', rfl⟩ := row_slice hown9
                have HF := Lib.hid (HK2.out.2 _ w9 hown9 hgrow)
                clear hown9 hgrow HK2
                go_wp2_with fail
                go_roundg (gk - 1)
                case measure => omega
                case rel => exact HF.out
        · obtain rfl : i = T.length := by omega
          have hKl : (keepN T k T.length).length = (keepO T k T.length).length := by simp [keepN]
          obtain ⟨xa, xc, rfl⟩ := row_slice hown
          have hNK : NodesIn (fun _ => True) wr (.slice xa (keepO T k T.length).length xc) (keepN T k T.length) := by
            refine nodes_row (pvs := (keepO T k T.length).map (pvAt w g o)) (base := w.heap.size) (E := 76) (by rw [hKl]; exact hown) (by simp [keepN]) (fun j hj hj2 => ?_) (fun m hm => ?_) (fun _ _ => trivial)
            · have hjO : j < (keepO T k T.length).length := by rw [← hKl]; exact hj
              have hil := (keepO_mem.1 (List.getElem_mem hjO)).1
              obtain ⟨g', o', pa, pc, hae', -, -, -, q2, hPP, -⟩ := HT.out.at _ hil
              injection hae' with hae'
              injection hae' with hg' ho'
              subst hg'
              subst ho'
              have hpv : pvAt w g o (keepO T k T.length)[j] = .slice pa (T[(keepO T k T.length)[j]].props).length pc := by unfold pvAt; rw [q2]; rfl
              have e1 : ((keepO T k T.length).map (pvAt w g o))[j]'(by simpa using hjO) = .slice pa (T[(keepO T k T.length)[j]].props).length pc := by rw [List.getElem_map, hpv]
              have e2 : (keepN T k T.length)[j].props = T[(keepO T k T.length)[j]].props := by
                have e3 : (keepN T k T.length)[j] = keepNode T k (keepO T k T.length)[j] := by simp [keepN]
                rw [e3]
                show propsOf T _ = _
                rw [propsOf_at hil]
              rw [e1, e2]
              exact (hPP.new hb).mono (fun _ _ => trivial)
            · unfold keepN at hm
              obtain ⟨i, hi, rfl⟩ := List.mem_map.1 hm
              have hil := (keepO_mem.1 hi).1
              obtain ⟨_, _, _, _, _, _, _, _, _, _, _, _, hns, h0, h1⟩ := HT.out.at i hil
              have hbd := plcT_bd T k (parN T i)
              refine ⟨by show (nameOf T i).size ≤ _; rw [nameOf_at hil]; exact hns, ?_, ?_⟩
              · show _ ≤ (if i = 0 then parOf T 0 else plcT T k (parN T i))
                split
                · rename_i e; subst e; rw [parOf_at hil]; exact h0
                · omega
              · show (if i = 0 then parOf T 0 else plcT T k (parN T i)) ≤ _
                split
                · rename_i e; subst e; rw [parOf_at hil]; exact h1
                · rename_i e
                  have := parN_lt hpar (by omega) hil
                  omega
          have hch := check_parts HCK.out
          have hr0 := named_root hch.2.1 (show 0 < T.length by omega)
          have hso := keep_subok hpar hk hk0
          have heq := keep_sub hpar hk hk0
          have hval := keep_valid HCK.out hk hk0
          have hsh := hso.shape hpar hr0
          rw [heq] at hNK
          have hwt := Lib.hid (walk_Tree (fun _ => True) (.slice xa (keepO T k T.length).length xc) (subT T (keepO T k T.length)) wr (by exact hNK) hsh (hso.dis hpar hr0 (dis_check HCK.out)) (by rw [sub_len]; have := hso.len; omega) (check_props hval))
          have hss := Lib.hid (sorted_self hval hsh.1)
          clear hNK hown hch hr0 hso heq hval hsh hKl hP hX
          go_wp2_with fail
          refine hwt.out.mono ?_
          rintro e w5 ⟨tv, gQ, l, rfl, hr5, -, -, -, -, hb5⟩
          rw [hss.out] at hr5
          obtain ⟨sa, sc, rfl⟩ := tree_slice hr5
          have hZ5 := (hZ.keeps (Keeps.of_fresh hb5 (fun _ => False)) (fun e => e)).alloc (.cells #[.slice sa (subT T (keepO T k T.length)).length sc] 25)
          have z5 := hZ5.cell 0
          have f5 := hZ5.free 0
          have r5 := ((hr5.base hb.size).new ((Below.refl _ _).alloc (Nat.le_refl _) (.cells #[.slice sa (subT T (keepO T k T.length)).length sc] 25))).set hZ5 (by decide) (by decide) 0 (.slice sa (subT T (keepO T k T.length)).length sc)
          have b4 := hb.trans (hb5.mono hb.size)
          have b5 := (b4.alloc b4.size (.cells #[.slice sa (subT T (keepO T k T.length)).length sc] 25)).setCell (p := ⟨w.heap.size + 1, 0, none⟩) (by simp) (.slice sa (subT T (keepO T k T.length)).length sc)
          have c5 := (hZ5.set 0 (.slice sa (subT T (keepO T k T.length)).length sc)).cell 0
          have HF5 := Lib.hid (And.intro r5 (And.intro b5 c5))
          clear r5 b5 c5 b4 hr5 hZ5 hb5 hwt hb hZ
          generalize (subT T (keepO T k T.length)) = T5 at *
          generalize hl5 : T5.length = n5 at *
          go_wp2_with fail
          rw [hF.out]
          have hx := HF5.out.2.2
          exact bodyPost_ret (v := .tuple #[.agg #[.slice sa n5 sc], .int .i64 0]) (by simp [results, Tryz.results62, go_sem, hx]) rfl ⟨.slice sa n5 sc, rfl, HF5.out.1, HF5.out.2.1⟩
end Go.Proofs.YtjfkjnakmmkkiaaGreat

namespace Go.Proofs.YtjfkjnakmmkkiaaGreat
open Go.RowKit

set_option maxRecDepth 100000 in
set_option maxHeartbeats 4000000 in
theorem ref3_Delete (R : Nat → Prop) (v : Value) (T : List NodeT) (s name : ByteArray) (w : World) (hT : NodesIn R w v T) :
    Calls Tryz.prog 61 #[.agg #[v], .string s, .string name] w (EditPost (deleteT T s name) w) := by
  obtain ⟨a, cap, rfl, hc1, hc2⟩ := hT.shape
  have HT := Lib.hid hT; clear hT
  have hbg := fun wx hx => ref3_begin R (.slice a T.length cap) T s wx hx
  have hb0 : Below w.heap.size w ((w.alloc (.cells #[.slice a T.length cap] 25)).alloc (.cells #[.slice none 0 0] 25)) := ((Below.refl _ _).alloc (Nat.le_refl _) _).alloc (by simp) _
  have hX0 := (Holds.new w #[.slice a T.length cap] 25).alloc (.cells #[.slice none 0 0] 25)
  have hZ0 := Holds.newAt (w := w.alloc (.cells #[.slice a T.length cap] 25)) (B := w.heap.size + 1) (by simp) #[.slice none 0 0] 25
  rcases begin_cases T s with ⟨hne, h10⟩ | ⟨hck, k, hk, hbe, hps⟩
  · have hF := Lib.hid (show deleteT T s name = ([], (rBeginT T s).2) from by unfold deleteT; rw [if_pos hne])
    have hne' : ((rBeginT T s).2 != 0) = true := by simpa using hne
    rw [h10] at hbg
    have HBG := Lib.hid hbg
    clear hbg hne h10
    generalize (rBeginT T s).2 = c at *
    go_enter Tryz.func61, Tryz.ntmps61
    go_wp2_with fail
    refine (HBG.out _ (by exact HT.out.new hb0)).mono ?_
    rintro e w1 ⟨rfl, hb1⟩
    have hZ1 := hZ0.keeps (Keeps.of_fresh hb1 (fun _ => False)) (fun e => e)
    have hb2 := hb0.trans (hb1.mono (by simp; omega))
    have z0 := hZ1.cell 0
    have zf := hZ1.free 0
    have zl := hZ1.lt
    go_wp2_with fail
    have q0 : (w1.setCell ⟨w.heap.size + 1, 0, none⟩ (.slice none 0 0)).cell? ⟨w.heap.size + 1, 0, none⟩ = some (.slice none 0 0) := (hZ1.set 0 _).cell 0
    exact bodyPost_ret (v := .tuple #[.agg #[.slice none 0 0], .int .i64 c]) (by simp [results, Tryz.results61, go_sem, q0]) rfl ⟨_, by rw [hF.out], by rw [hF.out]; exact TreeRow.nil _ _, hb2.setCell (p := ⟨w.heap.size + 1, 0, none⟩) (by simp) _⟩
  · rw [hbe] at hbg
    have HBG := Lib.hid hbg
    have hE := Lib.hid (delete_ok (x := name) hk hbe)
    have hl2 := (limits_len (check_limits hck)).2
    have HPS := Lib.hid (check_props hck)
    have hpl := HPS.out T[k] (List.getElem_mem hk)
    have hasc := asc_of_check hck k hk
    have hcp := Lib.hid (fun wx hx => ref3_copied R (.slice a T.length cap) T wx hx hl2 HPS.out)
    have hof := fun (wx : World) (pv : Value) (hx : PropsIn R wx pv T[k].props) => ref3_Of R T[k].parent T[k].name pv T[k].props name wx hx
    have hol := of_low (x := name) hasc
    clear hbg hbe hck hasc
    have hkl : (k : Int) < (T.length : Int) := by omega
    cases hhas : hasT T[k].props name with
    | false =>
      have hF := Lib.hid (show deleteT T s name = ([], 4) from by rw [hE.out, if_pos hhas])
      rw [hhas, if_neg (by decide)] at hol
      rw [hol] at hof
      have HOF := Lib.hid hof
      clear hof hhas hE hcp hol
      go_enter Tryz.func61, Tryz.ntmps61
      go_wp2_with fail
      refine (HBG.out _ (by exact HT.out.new hb0)).mono ?_
      rintro e w1 ⟨rfl, hb1⟩
      have hZ1 := hZ0.keeps (Keeps.of_fresh hb1 (fun _ => False)) (fun e => e)
      have hX1 := hX0.keeps (Keeps.of_fresh hb1 (fun _ => False)) (fun e => e)
      have hb2 := hb0.trans (hb1.mono (by simp; omega))
      obtain ⟨g, o, pa, pc, rfl, hg, c0, c1, c2, hp, p1, p2, b0, b1, b2⟩ := (HT.out.new hb2).at k hk
      have HPI := Lib.hid hp
      have bx := hX1.cell 0
      have bl := hX1.lt
      have hs2 := hb2.size
      clear hp
      go_wp2_with fail
      refine (HOF.out _ _ (by exact HPI.out)).mono ?_
      rintro e w2 ⟨rfl, hb3⟩
      have hZ2 := hZ1.keeps (Keeps.of_fresh hb3 (fun _ => False)) (fun e => e)
      have hb4 := hb2.trans (hb3.mono hs2)
      have z0 := hZ2.cell 0
      have zf := hZ2.free 0
      have zl := hZ2.lt
      go_wp2_with fail
      have q0 : (w2.setCell ⟨w.heap.size + 1, 0, none⟩ (.slice none 0 0)).cell? ⟨w.heap.size + 1, 0, none⟩ = some (.slice none 0 0) := (hZ2.set 0 _).cell 0
      exact bodyPost_ret (v := .tuple #[.agg #[.slice none 0 0], .int .i64 4]) (by simp [results, Tryz.results61, go_sem, q0]) rfl ⟨_, by rw [hF.out], by rw [hF.out]; exact TreeRow.nil _ _, hb4.setCell (p := ⟨w.heap.size + 1, 0, none⟩) (by simp) _⟩
    | true =>
      have hF := Lib.hid (show deleteT T s name = (T.set k ⟨T[k].parent, T[k].name, withoutT T[k].props name⟩, 0) from by rw [hE.out, if_neg (by rw [hhas]; decide)])
      obtain ⟨val, hval⟩ : ∃ val, ofT T[k].props name = (val, true) := ⟨_, by rw [hol, hhas, if_pos rfl]⟩
      rw [hval] at hof
      have HOF := Lib.hid hof
      clear hof hhas hE hol hval
      go_enter Tryz.func61, Tryz.ntmps61
      go_wp2_with fail
      refine (HBG.out _ (by exact HT.out.new hb0)).mono ?_
      rintro e w1 ⟨rfl, hb1⟩
      have hZ1 := hZ0.keeps (Keeps.of_fresh hb1 (fun _ => False)) (fun e => e)
      have hX1 := hX0.keeps (Keeps.of_fresh hb1 (fun _ => False)) (fun e => e)
      have hb2 := hb0.trans (hb1.mono (by simp; omega))
      obtain ⟨g, o, pa, pc, hga, hg, c0, c1, c2, hp, p1, p2, b0, b1, b2⟩ := (HT.out.new hb2).at k hk
      have HPI := Lib.hid hp
      subst hga
      have bx := hX1.cell 0
      have bl := hX1.lt
      have hs2 := hb2.size
      clear hp
      go_wp2_with fail
      refine (HOF.out _ _ (by exact HPI.out)).mono ?_
      rintro e w2 ⟨rfl, hb3⟩
      have hZ2 := hZ1.keeps (Keeps.of_fresh hb3 (fun _ => False)) (fun e => e)
      have hX2 := hX1.keeps (Keeps.of_fresh hb3 (fun _ => False)) (fun e => e)
      have hb4 := hb2.trans (hb3.mono hs2)
      clear bx bl c0 c1 c2 hX1 hZ1 hb2 hb3 hs2 HPI hb1 hb0 hX0 hZ0
      have bx := hX2.cell 0
      have bl := hX2.lt
      have hs4 := hb4.size
      go_wp2_with fail
      refine (hcp.out _ (by exact HT.out.new hb4)).mono ?_
      rintro e w4 ⟨cv, rfl, hR4, hb5⟩
      have hZ4 := hZ2.keeps (Keeps.of_fresh hb5 (fun _ => False)) (fun e => e)
      have hX4 := hX2.keeps (Keeps.of_fresh hb5 (fun _ => False)) (fun e => e)
      have hb6 := hb4.trans (hb5.mono hs4)
      have hs6 := hb6.size
      have hR5 := hR4.base hs4
      clear hb5 hb4 hX2 hZ2 bx bl hR4
      obtain ⟨cg, cc, hcv, hcgl⟩ : ∃ cg cc, cv = .slice (some ⟨cg, 0, none⟩) T.length cc ∧ cg < w4.heap.size := by
        obtain ⟨_, _, g2, _⟩ := hR5
        obtain ⟨x, y, e, _, hl⟩ := g2.form (by omega)
        exact ⟨x, y, e, hl⟩
      subst hcv
      have hC5 := Holds.new w4 #[.slice (some ⟨cg, 0, none⟩) T.length cc] 25
      have hR6 := hR5.new ((Below.refl _ _).alloc (Nat.le_refl _) (.cells #[.slice (some ⟨cg, 0, none⟩) T.length cc] 25))
      have hZ5 := hZ4.alloc (.cells #[.slice (some ⟨cg, 0, none⟩) T.length cc] 25)
      have hX5 := hX4.alloc (.cells #[.slice (some ⟨cg, 0, none⟩) T.length cc] 25)
      have hb7 := hb6.alloc hs6 (.cells #[.slice (some ⟨cg, 0, none⟩) T.length cc] 25)
      have hC5n : w4.heap.size + 1 = (w4.alloc (.cells #[.slice (some ⟨cg, 0, none⟩) T.length cc] 25)).heap.size := by simp
      go_upto_region 8 with fail
      clear hR5 hb6 hZ4 hX4
      obtain ⟨g', o', pa, pc, hga, hg, c0, c1, c2, hp, p1, p2, b0, b1, b2⟩ := (HT.out.new hb7).at k hk
      injection hga with hga
      injection hga with hga1 hga2
      subst hga1
      subst hga2
      have HPI := Lib.hid hp
      have hat := (hR6.at k hk)
      obtain ⟨pv, pa', pc', hpv, d0, d1, d2, hpr, hok⟩ := hat
      clear hp c0 c1 d0 d1 hpr hok
      subst hpv
      obtain ⟨_, _, hrow, _⟩ := id hR6
      have hfz := hrow.frozenAt (k * 3 + 2)
      have hcl2 := (hrow.lt cg rfl).2
      have hcgw := (hrow.lt cg rfl).1
      have hzc : w.heap.size + 1 ≠ cg := fun e => owns_ne_holds hrow hZ5 (by decide) (by rw [e]; rfl)
      clear hrow
      generalize w4.alloc (.cells #[.slice (some ⟨cg, 0, none⟩) T.length cc] 25) = w5 at *
      have x0 := hX5.cell 0
      have xl := hX5.lt
      have y0 := hC5.cell 0
      have yl := hC5.lt
      have hs7 := hb7.size
      have HR6 := Lib.hid hR6
      clear hR6
      have hput := Lib.hid (fun (wx : World) (hx : PropsIn (fun g => g < w5.heap.size) wx (.slice pa (T[k]'hk).props.length pc) (T[k]'hk).props) => ref3_Without (fun g => g < w5.heap.size) (.slice pa T[k].props.length pc) T[k].props name wx hx hpl)
      go_region_with (go_at_call 55; refine (hput.out _ (by exact HPI.out.bound.drew)).mono ?_; rintro e w7 ⟨rv, rfl, hrp, hb8⟩; obtain ⟨rva, rvc, hrv⟩ := row_slice hrp.1; subst hrv; have hb9 : Below w5.heap.size w5 w7 := (Below.refl w5.heap.size w5).drew.trans hb8; have kx := cell_keep x0 xl hb9; have ky := cell_keep y0 yl hb9; have kd := cell_keep d2 hcl2 hb9; have kz := (hb9.frozen (p := ⟨cg, k * 3 + 2, none⟩) hcl2).trans hfz; have kl := Nat.lt_of_lt_of_le hcl2 hb9.size; have kyl := Nat.lt_of_lt_of_le yl hb9.size)
      all_goals
        have hR7 := HR6.out.new hb9
        have hP7 := hrp.base (show w.heap.size ≤ w5.heap.size from hs7)
        have hC7 := hC5.keeps (Keeps.of_fresh hb9 (fun _ => False)) (fun e => e)
        have hZ7 := hZ5.keeps (Keeps.of_fresh hb9 (fun _ => False)) (fun e => e)
        have hC8 := hC7.other ⟨cg, k * 3 + 2, none⟩ (.slice rva (withoutT T[k].props name).length rvc) (by show w4.heap.size ≠ cg; omega)
        have hZ8 := hZ7.other ⟨cg, k * 3 + 2, none⟩ (.slice rva (withoutT T[k].props name).length rvc) hzc
        have hR8 := hR7.setProps k hk hP7
        have hb8' := (hb7.trans (hb9.mono hs7)).setCell (p := ⟨cg, k * 3 + 2, none⟩) hcgw (.slice rva (withoutT T[k].props name).length rvc)
        have y1 := hC8.cell 0
        have yl1 := hC8.lt
        have z1 := hZ8.cell 0
        have zf1 := hZ8.free 0
        have zl1 := hZ8.lt
        have hR10 := hR8.set hZ8 (by decide) (by decide) 0 (.slice (some ⟨cg, 0, none⟩) T.length cc)
        have hb10 := hb8'.setCell (p := ⟨w.heap.size + 1, 0, none⟩) (by simp) (.slice (some ⟨cg, 0, none⟩) T.length cc)
        have q0 := (hZ8.set 0 (.slice (some ⟨cg, 0, none⟩) T.length cc)).cell 0
        have HF2 := Lib.hid (And.intro hR10 (And.intro hb10 q0))
        clear hR10 hb10 q0 hR8 hb8' hC8 hZ8 hC7 hZ7 hP7 hR7 kx ky kd kz kl kyl hb9 hb8 hrp
        go_wp2_with fail
        have q0 := HF2.out.2.2
        exact bodyPost_ret (v := .tuple #[.agg #[.slice (some ⟨cg, 0, none⟩) T.length cc], .int .i64 0]) (by simp [results, Tryz.results61, go_sem, q0]) rfl ⟨_, by rw [hF.out], by rw [hF.out]; exact HF2.out.1, HF2.out.2.1⟩
end Go.Proofs.YtjfkjnakmmkkiaaGreat

namespace Go.Proofs.YtjfkjnakmmkkiaaGreat
open Go.RowKit

theorem remB_top {T : List NodeT} (h : Par T) {a : Nat} (ha : a < T.length) : remB T a a = true := by rw [remB_step h ha ha]; simp
theorem remB_lt {T : List NodeT} (h : Par T) {a i : Nat} (ha : a < T.length) (hi : i < a) : remB T a i = false := by
  cases e : remB T a i with
  | false => rfl
  | true =>
    have hl : i < T.length := by omega
    have := und_le h ha i i (Nat.le_refl _) hl ((remB_und h ha hl).1 e); omega
theorem remB_up {T : List NodeT} (h : Par T) {a i : Nat} (ha : a < T.length) (hi : i < T.length) (hai : a < i) : remB T a i = remB T a (parN T i) := by
  rw [remB_step h ha hi]
  have : (i == a) = false := by rw [beq_eq_false_iff_ne]; omega
  rw [this, Bool.false_or, decide_eq_true (by omega), Bool.true_and]

set_option maxHeartbeats 800000 in
theorem ref3_below (R : Nat → Prop) (v : Value) (T : List NodeT) (u k : Nat) (w : World) (hT : NodesIn R w v T) (hp : Par T) (hu : u < T.length) (hk : k < T.length) :
    Calls Tryz.prog 117 #[.agg #[v], .int .i64 u, .int .i64 k] w fun e w' => e = .returned (.bool (remB T k u)) ∧ Below w.heap.size w w' := by
  obtain ⟨a, cap, rfl, hc1, hc2⟩ := hT.shape
  have HT := Lib.hid hT; clear hT
  have HP := Lib.hid hp; clear hp
  go_enter Tryz.func117, Tryz.ntmps117
  go_wp2_with fail
  go_loopg [1] u (fun f x wr => ∃ i : Nat, x = .int .i64 i ∧ i ≤ f ∧ i < T.length ∧ Hid (remB T k u = remB T k i) ∧ ∃ n, wr = (w.alloc (.cells #[.slice a T.length cap] 25)).drewN n)
  case atStart => exact ⟨u, rfl, Nat.le_refl _, hu, Lib.hid rfl, 0, rfl⟩
  case round =>
    obtain ⟨i, rfl, hf, hi, hD, n, rfl⟩ := hrel
    by_cases h0 : k < i
    · obtain ⟨g, o, pa, pc, rfl, hg, c0, c1, c2, hp, p1, p2, b0, b1, b2⟩ := HT.out.at i hi
      have hpl := parN_lt HP.out (by omega) hi
      have hpe := Lib.hid (show T[i].parent = ((parN T i : Nat) : Int) from by rw [hpl.2, parOf_at hi])
      have hD2 := Lib.hid (show remB T k u = remB T k (parN T i) from by rw [hD.out, remB_up HP.out hk hi h0])
      have hpl1 := hpl.1
      clear hpl
      have h0' : (k : Int) < (i : Int) := by omega
      clear hp hD
      generalize T[i].parent = pp at *
      have hpe2 := hpe.out
      subst hpe2
      generalize parN T i = pk at *
      go_wp2_with fail
      go_roundg (gk - 1)
      case measure => omega
      case rel => exact ⟨pk, rfl, by omega, by omega, hD2, n, rfl⟩
    · have h0' : ¬ (k : Int) < (i : Int) := by omega
      have hX := Lib.hid (show remB T k u = ((i : Int) == (k : Int)) from by
        rw [hD.out]
        by_cases e : i = k
        · subst e; rw [remB_top HP.out hk]; simp
        · rw [remB_lt HP.out hk (by omega)]; symm; rw [beq_eq_false_iff_ne]; omega)
      clear hD
      go_wp2_with fail
      go_ret
      exact ⟨by rw [hX.out]; rfl, below_draws ((Below.refl _ _).alloc (Nat.le_refl _) _) n⟩

def atArr (T : List NodeT) (a k : Nat) : Array Value := ((List.range T.length).map fun i => Value.int .i64 (if i < k ∧ remB T a i = false then ((keepO T a i).length : Int) else 0)).toArray
theorem atArr_at (T : List NodeT) (a k i : Nat) (h : i < T.length) : (atArr T a k)[i]? = some (.int .i64 (if i < k ∧ remB T a i = false then ((keepO T a i).length : Int) else 0)) := by unfold atArr; simp [h]
theorem atArr_zero (T : List NodeT) (a : Nat) : atArr T a 0 = Array.replicate T.length (.int .i64 0) := by
  unfold atArr
  apply Array.ext
  · simp
  · intro i h1 h2; simp
theorem atArr_set (T : List NodeT) (a k : Nat) (hr : remB T a k = false) : (atArr T a k).setIfInBounds k (.int .i64 ((keepO T a k).length : Int)) = atArr T a (k + 1) := by
  unfold atArr
  apply Array.ext
  · simp
  · intro i h1 h2
    simp at h1
    rw [Array.getElem_setIfInBounds (by simpa using h1)]
    by_cases e : k = i
    · subst e; simp [hr]
    · have : (i < k) = (i < k + 1) := by apply propext; omega
      simp [e, this]
theorem atArr_skip (T : List NodeT) (a k : Nat) (hr : remB T a k = true) : atArr T a (k + 1) = atArr T a k := by
  unfold atArr
  congr 1
  apply List.map_congr_left
  intro i _
  by_cases e : i = k
  · subst e; simp [hr]
  · have e2 : (i < k + 1 ∧ remB T a i = false) = (i < k ∧ remB T a i = false) := by apply propext; constructor <;> (intro h; exact ⟨by omega, h.2⟩)
    simp only [e2]
/-- Kept while another row of nodes grows that lies above it. -/
theorem TreeRow.grown {w w' : World} {base b2 g n cap m : Nat} {v2 : Value} {T : List NodeT} {xs : List Value} (h : TreeRow w base (.slice (some ⟨g, 0, none⟩) n cap) T) (h2 : w.ownsRow b2 76 3 v2 m xs) (hg : w.grownBy w' v2.ownBlock) (hlt : g < b2) :
    TreeRow w' base (.slice (some ⟨g, 0, none⟩) n cap) T := by
  obtain ⟨pvs, h1, r, h3, h4⟩ := h
  refine ⟨pvs, h1, r.kept hg (.inr (fun e => ?_)), fun j a b => (h3 j a b).apart h2 hg (by decide), h4⟩
  have := (h2.lt g e.symm).1
  omega
def RfRel (T : List NodeT) (k : Nat) (a : Option Addr) (cap cg cc b3 A Z bc : Nat) (w : World) (f : Nat) (y : Value) (wr : World) : Prop :=
  ∃ (i : Nat) (x : Value), y = .int .i64 i ∧ i ≤ T.length ∧ T.length ≤ i + f ∧ TreeRow2 wr bc b3 x (keepN T k i) ∧ Holds wr Z #[x] 25 ∧ Holds wr A (atArr T k i) 3 ∧ TreeRow wr b3 (.slice (some ⟨cg, 0, none⟩) T.length cc) T ∧
    Holds wr w.heap.size #[.slice a T.length cap] 25 ∧ Holds wr (w.heap.size + 1) #[.slice none 0 0] 25 ∧ Below w.heap.size w wr ∧ bc ≤ wr.heap.size
def RfMid (T : List NodeT) (k i N A : Nat) (pv : Value) (wr : World) (y : Value) (wx : World) : Prop :=
  y = .pointer (some ⟨N, 0, none⟩) ∧ Holds wx N #[.int .i64 (keepNode T k i).parent, .string (keepNode T k i).name, pv] 76 ∧ Holds wx A (atArr T k (i + 1)) 3 ∧ Keeps (fun b => b = A) wr wx
theorem TreeRow2.other {w w' : World} {b1 b2 b : Nat} {t : TypeId} {v : Value} {T : List NodeT} {cs : Array Value} (h : TreeRow2 w b1 b2 v T) (hH : Holds w b cs t) (hne : t ≠ 76) (hne2 : t ≠ 83) (k : Keeps (· = b) w w') : TreeRow2 w' b1 b2 v T := by
  obtain ⟨pvs, h1, h2, h3, h4⟩ := h
  exact ⟨pvs, h1, row_other h2 hH hne k, fun j hj hj2 => ⟨row_other (h3 j hj hj2).1 hH hne2 k, (h3 j hj hj2).2⟩, h4⟩
theorem keep_up {T : List NodeT} (h : Par T) {a i : Nat} (ha : a < T.length) (hi : i < T.length) (h0 : 0 < i) (hr : remB T a i = false) : remB T a (parN T i) = false := by
  rw [remB_step h ha hi] at hr
  cases e : remB T a (parN T i) with
  | false => rfl
  | true => rw [e] at hr; simp [h0] at hr
theorem keep_par {T : List NodeT} (h : Par T) {a i : Nat} (ha : a < T.length) (hi : i < T.length) (hr : remB T a i = false) : (i = 0 → (keepNode T a i).parent = T[i].parent) ∧ (0 < i → (keepNode T a i).parent = ((keepO T a (parN T i)).length : Int)) := by
  refine ⟨fun e => ?_, fun e => ?_⟩
  · subst e; exact parOf_at hi
  · show (if i = 0 then parOf T 0 else plcT T a (parN T i)) = _
    rw [if_neg (by omega)]
    unfold plcT
    rw [if_neg (by rw [keep_up h ha hi e hr]; decide)]
theorem keep_rest {T : List NodeT} {a i : Nat} (hi : i < T.length) : (keepNode T a i).name = T[i].name ∧ (keepNode T a i).props = T[i].props := ⟨nameOf_at hi, propsOf_at hi⟩

set_option maxRecDepth 100000 in
set_option maxHeartbeats 4000000 in
theorem ref3_Remove (R : Nat → Prop) (v : Value) (T : List NodeT) (s : ByteArray) (w : World) (hT : NodesIn R w v T) :
    Calls Tryz.prog 63 #[.agg #[v], .string s] w (EditPost (removeT T s) w) := by
  obtain ⟨a, cap, rfl, hc1, hc2⟩ := hT.shape
  have HT := Lib.hid hT; clear hT
  have hbg := fun wx hx => ref3_begin R (.slice a T.length cap) T s wx hx
  have hb0 : Below w.heap.size w ((w.alloc (.cells #[.slice a T.length cap] 25)).alloc (.cells #[.slice none 0 0] 25)) := ((Below.refl _ _).alloc (Nat.le_refl _) _).alloc (by simp) _
  have hX0 := (Holds.new w #[.slice a T.length cap] 25).alloc (.cells #[.slice none 0 0] 25)
  have hZ0 := Holds.newAt (w := w.alloc (.cells #[.slice a T.length cap] 25)) (B := w.heap.size + 1) (by simp) #[.slice none 0 0] 25
  rcases begin_cases T s with ⟨hne, h10⟩ | ⟨hck, k, hk, hbe, hps⟩
  · have hF := Lib.hid (show removeT T s = ([], (rBeginT T s).2) from by unfold removeT; rw [if_pos hne])
    have hne' : ((rBeginT T s).2 != 0) = true := by simpa using hne
    rw [h10] at hbg
    have HBG := Lib.hid hbg
    clear hbg hne h10
    generalize (rBeginT T s).2 = c at *
    go_enter Tryz.func63, Tryz.ntmps63
    go_wp2_with fail
    refine (HBG.out _ (by exact HT.out.new hb0)).mono ?_
    rintro e w1 ⟨rfl, hb1⟩
    have hZ1 := hZ0.keeps (Keeps.of_fresh hb1 (fun _ => False)) (fun e => e)
    have hb2 := hb0.trans (hb1.mono (by simp; omega))
    have z0 := hZ1.cell 0
    have zf := hZ1.free 0
    have zl := hZ1.lt
    go_wp2_with fail
    have q0 : (w1.setCell ⟨w.heap.size + 1, 0, none⟩ (.slice none 0 0)).cell? ⟨w.heap.size + 1, 0, none⟩ = some (.slice none 0 0) := (hZ1.set 0 _).cell 0
    exact bodyPost_ret (v := .tuple #[.agg #[.slice none 0 0], .int .i64 c]) (by simp [results, Tryz.results63, go_sem, q0]) rfl ⟨_, by rw [hF.out], by rw [hF.out]; exact TreeRow.nil _ _, hb2.setCell (p := ⟨w.heap.size + 1, 0, none⟩) (by simp) _⟩
  · rw [hbe] at hbg
    have HBG := Lib.hid hbg
    have hE := Lib.hid (remove_ok (T := T) hbe)
    have hl2 := (limits_len (check_limits hck)).2
    have HPS := Lib.hid (check_props hck)
    have hpar := par_of_named (check_parts hck).2.1
    have hcp := Lib.hid (fun wx hx => ref3_copied R (.slice a T.length cap) T wx hx hl2 HPS.out)
    clear hbg hbe hck
    by_cases hk0 : k = 0
    · have hF := Lib.hid (show removeT T s = ([], 1) from by rw [hE.out, if_pos hk0])
      have hk0' : ((k : Int) == 0) = true := by rw [hk0]; rfl
      clear hk0 hpar hps
      go_enter Tryz.func63, Tryz.ntmps63
      go_wp2_with fail
      refine (HBG.out _ (by exact HT.out.new hb0)).mono ?_
      rintro e w1 ⟨rfl, hb1⟩
      have hZ1 := hZ0.keeps (Keeps.of_fresh hb1 (fun _ => False)) (fun e => e)
      have hb2 := hb0.trans (hb1.mono (by simp; omega))
      have z0 := hZ1.cell 0
      have zf := hZ1.free 0
      have zl := hZ1.lt
      go_wp2_with fail
      have q0 : (w1.setCell ⟨w.heap.size + 1, 0, none⟩ (.slice none 0 0)).cell? ⟨w.heap.size + 1, 0, none⟩ = some (.slice none 0 0) := (hZ1.set 0 _).cell 0
      exact bodyPost_ret (v := .tuple #[.agg #[.slice none 0 0], .int .i64 1]) (by simp [results, Tryz.results63, go_sem, q0]) rfl ⟨_, by rw [hF.out], by rw [hF.out]; exact TreeRow.nil _ _, hb2.setCell (p := ⟨w.heap.size + 1, 0, none⟩) (by simp) _⟩
    · have hF := Lib.hid (show removeT T s = (keepN T k T.length, 0) from by rw [hE.out, if_neg hk0, keep_sub hpar hk hk0])
      have hk0' : ((k : Int) == 0) = false := by rw [beq_eq_false_iff_ne]; omega
      have HPAR := Lib.hid hpar
      clear hpar hps hE
      have hmk := make_ints T.length (by omega)
      go_enter Tryz.func63, Tryz.ntmps63
      go_wp2_with fail
      refine (HBG.out _ (by exact HT.out.new hb0)).mono ?_
      rintro e w1 ⟨rfl, hb1⟩
      have hZ1 := hZ0.keeps (Keeps.of_fresh hb1 (fun _ => False)) (fun e => e)
      have hX1 := hX0.keeps (Keeps.of_fresh hb1 (fun _ => False)) (fun e => e)
      have hb2 := hb0.trans (hb1.mono (by simp; omega))
      have x0 := hX1.cell 0
      have xl := hX1.lt
      have hzw := hZ1.lt
      have hs2 := hb2.size
      clear hb1 HBG hb0 hX0 hZ0
      have hA2 := (Holds.new w1 (Array.replicate T.length (.int .i64 0)) 3).alloc (.cells #[.slice none 0 0] 25)
      have hO2 := Holds.newAt (w := w1.alloc (.cells (Array.replicate T.length (.int .i64 0)) 3)) (B := w1.heap.size + 1) (by simp) #[.slice none 0 0] 25
      have hb3 : Below w.heap.size w ((w1.alloc (.cells (Array.replicate T.length (.int .i64 0)) 3)).alloc (.cells #[.slice none 0 0] 25)) := (hb2.alloc hs2 _).alloc (by simp; omega) _
      have hX2 := (hX1.alloc (.cells (Array.replicate T.length (.int .i64 0)) 3)).alloc (.cells #[.slice none 0 0] 25)
      have hZ2 := (hZ1.alloc (.cells (Array.replicate T.length (.int .i64 0)) 3)).alloc (.cells #[.slice none 0 0] 25)
      go_wp2_with fail
      refine (hcp.out _ (by exact HT.out.new hb3)).mono ?_
      rintro e w4 ⟨cv, rfl, hR4, hb5⟩
      have hfld : ∀ wx : World, (Instr.field 25 (.agg #[cv]) 0).run Tryz.prog wx = .ok cv wx := fun wx => by kernel_rfl
      have k5 := Keeps.of_fresh hb5 (fun _ => False)
      have hA4 := hA2.keeps k5 (fun e => e)
      have hO4 := hO2.keeps k5 (fun e => e)
      have hX4 := hX2.keeps k5 (fun e => e)
      have hZ4 := hZ2.keeps k5 (fun e => e)
      have hb6 := hb3.trans (hb5.mono hb3.size)
      have hs5 := hb5.size
      have hs6 := hb6.size
      have hsz : ((w1.alloc (.cells (Array.replicate T.length (.int .i64 0)) 3)).alloc (.cells #[.slice none 0 0] 25)).heap.size = w1.heap.size + 1 + 1 := by simp
      rw [hsz] at hR4 hs5
      obtain ⟨cg, cc, hcv, hcgl, hcgb⟩ : ∃ cg cc, cv = .slice (some ⟨cg, 0, none⟩) T.length cc ∧ cg < w4.heap.size ∧ w1.heap.size + 1 + 1 ≤ cg := by
        obtain ⟨_, _, g2, _⟩ := hR4
        obtain ⟨x, y, e, h1, hl⟩ := g2.form (by omega)
        exact ⟨x, y, e, hl, h1⟩
      subst hcv
      clear hA2 hO2 hX2 hZ2 k5 hb3 hb5 hX1 hZ1 x0 xl hmk
      have hst : RfRel T k a cap cg cc (w1.heap.size + 1 + 1) w1.heap.size (w1.heap.size + 1) w4.heap.size w T.length (.int .i64 0) w4 := ⟨0, _, rfl, by omega, by omega, TreeRow2.nil _ _ _, hO4, by rw [atArr_zero]; exact hA4, hR4, hX4, hZ4, hb6, Nat.le_refl _⟩
      have HST := Lib.hid hst
      clear hst hA4 hO4 hR4 hX4 hZ4 hb6
      go_wp2_with fail
      go_loopg [33] (T.length) (fun f x wr => RfRel T k a cap cg cc (w1.heap.size + 1 + 1) w1.heap.size (w1.heap.size + 1) w4.heap.size w f x wr)
      case atStart => exact HST.out
      case round =>
        clear HST
        obtain ⟨i, x, rfl, hi, hf, hR, hO, hA, hC, hX, hZ, hb, hbc⟩ := hrel
        have hbs := hb.size
        by_cases hlt : i < T.length
        · obtain ⟨_, pa, pc, rfl, c0, c1, c2, hp, hok⟩ := hC.at i hlt
          have hb0 : Below wr.heap.size wr (wr.alloc (.cells #[.int .i64 T[i].parent, .string T[i].name, .slice pa T[i].props.length pc] 76)) := (Below.refl _ _).alloc (Nat.le_refl _) _
          have hN0 := Holds.new wr #[.int .i64 T[i].parent, .string T[i].name, .slice pa T[i].props.length pc] 76
          have hX1 := hX.alloc (.cells #[.int .i64 T[i].parent, .string T[i].name, .slice pa T[i].props.length pc] 76)
          have x1 := hX1.cell 0
          have xl1 := hX1.lt
          have hbl := Lib.hid (fun (wx : World) (hx : Below wr.heap.size wr wx) => ref3_below R (.slice a T.length cap) T i k wx (HT.out.new (hb.trans (hx.mono hbs))) HPAR.out hlt hk)
          have HP := Lib.hid hp; have HOK := Lib.hid hok; have HR := Lib.hid hR; have HO := Lib.hid hO; have HA := Lib.hid hA; have HC := Lib.hid hC; have HX := Lib.hid hX; have HZ := Lib.hid hZ; have HB := Lib.hid hb
          clear hp hok hR hO hA hC hX hZ hb
          have hcl : cg < wr.heap.size := by omega
          cases hrm : remB T k i with
          | true =>
            have hskip := Lib.hid (atArr_skip T k i hrm)
            have hkeep := Lib.hid (show keepN T k (i + 1) = keepN T k i from by unfold keepN; rw [keepO_no hrm])
            go_wp2_with fail
            refine (hbl.out _ (by exact hb0)).mono ?_
            rintro e w5 ⟨rfl, hb5⟩
            rw [hrm]
            have hb7 := hb0.trans (hb5.mono (by simp))
            have k7 := Keeps.of_fresh hb7 (fun _ => False)
            go_wp2_with fail
            go_roundg (gk - 1)
            case measure => omega
            case rel => exact ⟨i + 1, x, by go_num, by omega, by omega, by rw [hkeep.out]; exact HR.out.new hb7, HO.out.keeps k7 (fun e => e), by rw [hskip.out]; exact HA.out.keeps k7 (fun e => e), HC.out.new hb7, HX.out.keeps k7 (fun e => e), HZ.out.keeps k7 (fun e => e), HB.out.trans (hb7.mono hbs), Nat.le_trans hbc hb7.size⟩
          | false =>
            have hset := Lib.hid (atArr_set T k i hrm)
            have hkeep := Lib.hid (show keepN T k (i + 1) = keepN T k i ++ [keepNode T k i] from by unfold keepN; rw [keepO_yes hrm, List.map_append]; rfl)
            have hkl := keepO_len T k i
            have hknl : (keepN T k i).length = (keepO T k i).length := by unfold keepN; simp
            go_wp2_with fail
            refine (hbl.out _ (by exact hb0)).mono ?_
            rintro e w5 ⟨rfl, hb5⟩
            rw [hrm]
            have hb7 := hb0.trans (hb5.mono (by simp))
            have k7 := Keeps.of_fresh hb7 (fun _ => False)
            have hA7 := HA.out.keeps k7 (fun e => e)
            have hO7 := HO.out.keeps k7 (fun e => e)
            have hN7 := hN0.keeps (Keeps.of_fresh hb5 (fun _ => False)) (fun e => e)
            have hs7 := hb7.size
            have hAN : wr.heap.size ≠ w1.heap.size := by omega
            obtain ⟨xa, xc, hxe⟩ : ∃ xa xc, x = .slice xa (keepO T k i).length xc := by
              obtain ⟨_, _, g2, _⟩ := HR.out
              rw [hknl] at g2
              exact row_slice g2
            subst hxe
            -- the store of its place
            have hA8 := hA7.set i (.int .i64 ((keepO T k i).length : Int))
            rw [hset.out] at hA8
            have hN8 := hN7.other ⟨w1.heap.size, i, none⟩ (.int .i64 ((keepO T k i).length : Int)) hAN
            have hK8 : Keeps (fun b => b = w1.heap.size) wr (w5.setCell ⟨w1.heap.size, i, none⟩ (.int .i64 ((keepO T k i).length : Int))) := (Keeps.of_fresh hb7 (fun b => b = w1.heap.size)).setCell (p := ⟨w1.heap.size, i, none⟩) (.inr rfl) _
            have a7 := (hA7.cell i).trans (atArr_at T k i i hlt)
            have f7 := hA7.free i
            have l7 := hA7.lt
            have o7 := hO7.cell 0
            have ol7 := hO7.lt
            have HALL := Lib.hid (And.intro hA8 (And.intro hN8 hK8))
            clear hA8 hN8 k7 c0 c1 c2 x1 xl1 hb0 hN0 hX1 hN7 hA7 hO7 hK8
            go_upto_if 49 with fail
            generalize w5.setCell ⟨w1.heap.size, i, none⟩ (.int .i64 ((keepO T k i).length : Int)) = wm at *
            clear a7 f7 l7 o7 ol7
            obtain ⟨hA8, hN8, hK8⟩ := HALL.out
            have hkr := Lib.hid (keep_rest (a := k) hlt)
            have hkp := Lib.hid (keep_par HPAR.out hk hlt hrm)
            go_cut [11] (fun y wx => RfMid T k i wr.heap.size w1.heap.size (.slice pa T[i].props.length pc) wr y wx)
            case first =>
              have n0 := hN8.cell 0
              have nf := hN8.free 0
              have nl := hN8.lt
              by_cases hi0 : i = 0
              · have hi1 : ¬ (0 : Int) < (i : Int) := by omega
                have hmp := Lib.hid (hkp.out.1 hi0)
                clear hi0
                go_wp2_with fail
                go_meet
                exact ⟨rfl, by rw [hmp.out, hkr.out.1]; exact hN8, hA8, hK8⟩
              · have hi1 : (0 : Int) < (i : Int) := by omega
                have hmp := Lib.hid (hkp.out.2 (by omega))
                have hpl := parN_lt HPAR.out (by omega : 0 < i) hlt
                have a0 := (hA8.cell (parN T i)).trans (atArr_at T k (i + 1) (parN T i) (by omega))
                rw [if_pos ⟨by omega, keep_up HPAR.out hk hlt (by omega) hrm⟩] at a0
                have al := hA8.lt
                obtain ⟨hpl1, hpl2⟩ := hpl
                rw [parOf_at hlt] at hpl2
                have hpp : T[i].parent = ((parN T i : Nat) : Int) := hpl2.symm
                clear hpl2 hi0
                generalize parN T i = pk at *
                generalize T[i].parent = pp at *
                subst hpp
                have hpi : (pk : Int) < (T.length : Int) := by omega
                go_wp2_with fail
                go_meet
                exact ⟨rfl, by rw [hmp.out, hkr.out.1]; exact hN8.set 0 _, hA8.other _ _ (by show w1.heap.size ≠ wr.heap.size; omega), hK8.setCell (p := ⟨wr.heap.size, 0, none⟩) (.inl (Nat.le_refl _)) _⟩
            case rest =>
              obtain ⟨rfl, hN9, hA9, hK9⟩ := hcut
              clear hN8 hA8 hK8 HALL
              have hO9 := HO.out.keeps hK9 (by show ¬ w1.heap.size + 1 = w1.heap.size; omega)
              have hX9 := HX.out.keeps hK9 (by show ¬ w.heap.size = w1.heap.size; omega)
              have hZ9 := HZ.out.keeps hK9 (by show ¬ w.heap.size + 1 = w1.heap.size; omega)
              have hC9 := HC.out.other HA.out (by decide) (by decide) hK9
              have hR9 := HR.out.other HA.out (by decide) (by decide) hK9
              have hP9 : PropRow wc (w1.heap.size + 1 + 1) (.slice pa T[i].props.length pc) (keepNode T k i).props := by rw [hkr.out.2]; exact ⟨row_other HP.out.1 HA.out (by decide) hK9, HP.out.2⟩
              have hb9 := HB.out.trans (hK9.below hbs (fun j hj e => by omega))
              have hs9 := hK9.size
              have hok9 : NodeOk (keepNode T k i) := by
                refine ⟨by rw [hkr.out.1]; exact HOK.out.1, ?_, ?_⟩
                · by_cases e : i = 0
                  · rw [hkp.out.1 e]; exact HOK.out.2.1
                  · rw [hkp.out.2 (by omega)]; omega
                · by_cases e : i = 0
                  · rw [hkp.out.1 e]; exact HOK.out.2.2
                  · have h1 := keepO_len T k (parN T i)
                    have h2 := (parN_lt HPAR.out (by omega : 0 < i) hlt).1
                    rw [hkp.out.2 (by omega)]; omega
              obtain ⟨pvs, g1, g2, g3, g4⟩ := hR9
              rw [hknl] at g2
              have G3 := Lib.hid g3; have G4 := Lib.hid g4; have G1 := Lib.hid g1; have HP9 := Lib.hid hP9; have HOK9 := Lib.hid hok9; have HC9 := Lib.hid hC9; have HB9 := Lib.hid hb9
              have HKL := Lib.hid hknl
              have e1 : (keepO T k i).length + 1 ≤ maxLen := by unfold maxLen; omega
              have e2 : ((keepO T k i).length + 1) * 48 ≤ 140737488355328 := by omega
              clear g3 g4 g1 hP9 hok9 hC9 hb9 hknl
              have x0 := hO9.cell 0
              have xl := hO9.lt
              have m0 := hN9.cell 0
              have m1 := hN9.cell 1
              have m2 := hN9.cell 2
              have ml := hN9.lt
              have HKK := Lib.hid hkeep.out
              generalize hmt : keepNode T k i = nd at *
              clear hmt
              obtain ⟨i0, hi2, hz0, hz1, hz2⟩ := info_parts infoNd
              go_wp2_with (at_builtin; refine wpList_append_own _ rfl _ _ 23 rfl w4.heap.size 76 i0 (.agg #[.int .i64 0, .string ⟨#[]⟩, .slice none 0 0]) 3 48 Tryz.underlying23 hi2 hz0 hz1 hz2 rfl (by decide) _ (keepO T k i).length (nodeCells (keepN T k i) pvs) rfl (by exact World.ownsRow.alloc g2 _) ⟨wc.heap.size, 0, none⟩ 1 1 [.int .i64 nd.parent, .string nd.name, .slice pa T[i].props.length pc] rfl rfl ?d1 ?d2 ?d3 ?d4 ?d5 ?_)
              case d1 => exact new_cells _ _ _ _ rfl _ rfl
              case d2 =>
                intro u hu
                simp at hu
                rcases hu with rfl | rfl | rfl <;> rfl
              case d3 => exact e1
              case d4 => exact e2
              case d5 => simp; omega
              intro v' w6 hown' hgrow _
              have hal : Below wc.heap.size wc (wc.alloc (.cells #[.int .i64 nd.parent, .string nd.name, .slice pa T[i].props.length pc] 76)) := (Below.refl _ _).alloc (Nat.le_refl _) _
              have hO6 := (hO9.alloc (.cells #[.int .i64 nd.parent, .string nd.name, .slice pa T[i].props.length pc] 76)).grown hgrow (owns_ne_holds g2 hO9 (by decide))
              have hX6 := (hX9.alloc (.cells #[.int .i64 nd.parent, .string nd.name, .slice pa T[i].props.length pc] 76)).grown hgrow (owns_ne_holds g2 hX9 (by decide))
              have hZ6 := (hZ9.alloc (.cells #[.int .i64 nd.parent, .string nd.name, .slice pa T[i].props.length pc] 76)).grown hgrow (owns_ne_holds g2 hZ9 (by decide))
              have hA6 := (hA9.alloc (.cells #[.int .i64 nd.parent, .string nd.name, .slice pa T[i].props.length pc] 76)).grown hgrow (owns_ne_holds g2 hA9 (by decide))
              have hC6 := (HC9.out.new hal).grown (World.ownsRow.alloc g2 (.cells #[.int .i64 nd.parent, .string nd.name, .slice pa T[i].props.length pc] 76)) hgrow (by omega)
              have hb6 := (HB9.out.alloc HB9.out.size (.cells #[.int .i64 nd.parent, .string nd.name, .slice pa T[i].props.length pc] 76)).grown hgrow (by have := HB9.out.size; simp; omega) (fun g hg => by have := (g2.lt g hg).1; have := hs6; omega)
              have hsz6 : wr.heap.size ≤ w6.heap.size := by have := hgrow.size; simp at this; omega
              have hR6 : TreeRow2 w6 w4.heap.size (w1.heap.size + 1 + 1) v' (keepN T k i ++ [nd]) := TreeRow2.more G1.out (by rw [HKL.out]; exact World.ownsRow.alloc g2 _) (fun q hq hq2 => (G3.out q hq hq2).new hal) G4.out (HP9.out.new hal) HOK9.out (by rw [HKL.out]; exact hown') hgrow
              obtain ⟨va, vc, rfl⟩ := row_slice hown'
              have HF6 := Lib.hid (And.intro (hR6.set hO6 (by decide) (by decide) 0 (.slice va ((keepO T k i).length + 1) vc)) (And.intro (hO6.set 0 (.slice va ((keepO T k i).length + 1) vc)) (And.intro (hA6.other ⟨w1.heap.size + 1, 0, none⟩ (.slice va ((keepO T k i).length + 1) vc) (by show w1.heap.size ≠ w1.heap.size + 1; omega)) (And.intro (hC6.set hO6 (by decide) (by decide) 0 (.slice va ((keepO T k i).length + 1) vc)) (And.intro (hX6.other ⟨w1.heap.size + 1, 0, none⟩ (.slice va ((keepO T k i).length + 1) vc) (by show w.heap.size ≠ w1.heap.size + 1; omega)) (And.intro (hZ6.other ⟨w1.heap.size + 1, 0, none⟩ (.slice va ((keepO T k i).length + 1) vc) (by show w.heap.size + 1 ≠ w1.heap.size + 1; omega)) (hb6.setCell (p := ⟨w1.heap.size + 1, 0, none⟩) (by show w.heap.size ≤ w1.heap.size + 1; omega) (.slice va ((keepO T k i).length + 1) vc))))))))
              clear hgrow hown' x0 xl m0 m1 m2 ml hR6 hA6 hC6 hX6 hZ6 hb6
              have x0 := hO6.cell 0
              have xf := hO6.free 0
              have xl := hO6.lt
              go_wp2_with fail
              go_roundg (gk - 1)
              case measure => omega
              case rel => exact ⟨i + 1, _, by go_num, by omega, by omega, by rw [hkeep.out]; exact HF6.out.1, HF6.out.2.1, HF6.out.2.2.1, HF6.out.2.2.2.1, HF6.out.2.2.2.2.1, HF6.out.2.2.2.2.2.1, HF6.out.2.2.2.2.2.2, by simp; omega⟩
        · obtain rfl : i = T.length := by omega
          have z0 := hZ.cell 0
          have zf := hZ.free 0
          have zl := hZ.lt
          have o0 := hO.cell 0
          have ol := hO.lt
          have hR2 := (hR.one (by omega)).base (show w.heap.size ≤ w1.heap.size + 1 + 1 by omega)
          have hkn : (keepN T k T.length).length = (keepO T k T.length).length := by unfold keepN; simp
          obtain ⟨xa, xc, hxe⟩ : ∃ xa xc, x = .slice xa (keepO T k T.length).length xc := by
            obtain ⟨_, _, g2, _⟩ := hR2
            rw [hkn] at g2
            exact row_slice g2
          subst hxe
          have hR3 := hR2.set hZ (by decide) (by decide) 0 (.slice xa (keepO T k T.length).length xc)
          have hb7 := hb.setCell (p := ⟨w.heap.size + 1, 0, none⟩) (by simp) (.slice xa (keepO T k T.length).length xc)
          have q0 := (hZ.set 0 (.slice xa (keepO T k T.length).length xc)).cell 0
          have HF2 := Lib.hid (And.intro hR3 (And.intro hb7 q0))
          clear hR3 hb7 q0 hR2 hR hC hA hX hb hkn
          go_wp2_with fail
          have q0 := HF2.out.2.2
          exact bodyPost_ret (v := .tuple #[.agg #[.slice xa (keepO T k T.length).length xc], .int .i64 0]) (by simp [results, Tryz.results63, go_sem, q0]) rfl ⟨_, by rw [hF.out], by rw [hF.out]; exact HF2.out.1, HF2.out.2.1⟩
end Go.Proofs.YtjfkjnakmmkkiaaGreat
