/- Contracts of package tree: region 2 of changed (printed by gchg.py). | Contracts of package tree: changed, and the closure of Set. | Contracts of package tree: the region of Set that looks a property up (printed by gtse.py). | Contracts of package tree: Set. | Some of a valid tree's nodes, closed under parents, are a valid tree again (plain; for Remove). | What Remove keeps, in plain Lean. | The plain law of TreeRemoves: paths of a valid tree, and where they are found behind Remove. -/
import Derived.Test.YtjfkjnakmmkkiaaGreatZ14
import Derived.Test.YtjfkjnakmmkkiaaGreatZ15
import Derived.Test.YtjfkjnakmmkkiaaGreatZ1
import Derived.Test.YtjfkjnakmmkkiaaGreatZ7
import Derived.Test.YtjfkjnakmmkkiaaGreatZ8

namespace Go.Proofs.YtjfkjnakmmkkiaaGreat
open Go.RowKit

noncomputable def chgOps (n : Nat) : Array Oper := (regOps (Tryz.f108.body.getD .skip) n).getD #[]
theorem chg2 : inRow2 .any (chgOps 2) = true := by kernel_rfl
theorem chg2a : apartB (chgOps 2) = true := by kernel_rfl
theorem chg2n : (chgOps 2).size = 14 := by kernel_rfl
def ChgS (Z gT n cap : Nat) (pv : Value) (W w : World) : Prop := Holds w Z #[.slice (some ⟨gT, 0, none⟩) n cap] 25 ∧ Keeps (fun b => pv.ownBlock = some b ∨ b = gT) W w
def ChgX (pv : Value) (W : World) (l : Array Bool) (w : World) : Prop :=
  (l.getD 10 false = false → Keeps (fun _ => False) W w) ∧ (l.getD 13 false = false → Keeps (fun b => pv.ownBlock = some b) W w)
theorem ChgX.keep {pv : Value} {W w w' : World} {l : Array Bool} (h : ChgX pv W l w) (i : Nat) (h1 : Keeps (fun _ => False) W w → Keeps (fun _ => False) W w') (h2 : Keeps (fun b => pv.ownBlock = some b) W w → Keeps (fun b => pv.ownBlock = some b) W w') : ChgX pv W (l.setIfInBounds i true) w' :=
  ⟨fun e => h1 (h.1 (listed_set e)), fun e => h2 (h.2 (listed_set e))⟩
def ChgF (base Z gT n cap at_ fn : Nat) (caps : Array Value) (pv : Value) (ps2 : List PropT) (T2 : List NodeT) (j : Nat) : Value → World → Prop := match j with
  | 0 => fun u _ => u = .pointer (some ⟨Z, 0, none⟩)
  | 1 => fun u _ => u = .slice (some ⟨gT, 0, none⟩) n cap
  | 2 => fun u _ => u = .int .i64 at_
  | 3 => fun u _ => u = .func (.func fn) #[] caps
  | 4 => fun u _ => u = .pointer (some ⟨Z, 0, none⟩)
  | 5 => fun u _ => u = .slice (some ⟨gT, 0, none⟩) n cap
  | 6 => fun u _ => u = .int .i64 at_
  | 7 => fun u _ => u = .pointer (some ⟨gT, at_ * 3, none⟩)
  | 8 => fun u _ => u = .pointer (some ⟨gT, at_ * 3 + 2, none⟩)
  | 9 => fun u _ => u = pv
  | 10 => fun u w => PropRow w base u ps2
  | 11 => fun u _ => u = .pointer (some ⟨gT, at_ * 3, none⟩)
  | 12 => fun u _ => u = .pointer (some ⟨gT, at_ * 3 + 2, none⟩)
  | 13 => fun _ w => TreeRow w base (.slice (some ⟨gT, 0, none⟩) n cap) T2
  | _ => fun _ _ => True
section
variable {base Z gT n cap at_ fn : Nat} {caps : Array Value} {pv : Value} {ps2 : List PropT} {T2 : List NodeT}
theorem ChgS.call {W w w' : World} (h : ChgS Z gT n cap pv W w) (hZ : pv.ownBlock ≠ some Z) (k : Keeps (fun b => pv.ownBlock = some b) w w') : ChgS Z gT n cap pv W w' := ⟨h.1.keeps k hZ, h.2.trans k (fun _ _ e => Or.inl e)⟩
theorem ChgS.put {W w : World} (h : ChgS Z gT n cap pv W w) (hZ : Z ≠ gT) (v : Value) : ChgS Z gT n cap pv W (w.setCell ⟨gT, at_ * 3 + 2, none⟩ v) :=
  ⟨h.1.other _ _ hZ, h.2.trans ((Keeps.refl (fun b => pv.ownBlock = some b ∨ b = gT) w).setCell (p := ⟨gT, at_ * 3 + 2, none⟩) (Or.inr (Or.inr rfl)) v) (fun _ _ e => e)⟩
theorem ChgF.call {w w' : World} {j : Nat} {u : Value} (h : ChgF base Z gT n cap at_ fn caps pv ps2 T2 j u w) (h10 : j ≠ 10) (h13 : j ≠ 13) : ChgF base Z gT n cap at_ fn caps pv ps2 T2 j u w' := by
  unfold ChgF at *
  split at h
  all_goals first
    | exact absurd rfl h10
    | exact absurd rfl h13
    | exact h
theorem ChgF.put {w w' : World} {j : Nat} {u : Value} (h : ChgF base Z gT n cap at_ fn caps pv ps2 T2 j u w) (h13 : j ≠ 13) (h10 : j ≠ 10) : ChgF base Z gT n cap at_ fn caps pv ps2 T2 j u w' := h.call h10 h13
end

set_option maxHeartbeats 4000000 in
set_option maxRecDepth 100000 in
theorem chg_region2 {Q : Exit → Act → World → Prop} (base Z gT n cap at_ fn : Nat) (caps : Array Value) (pv : Value) (ps2 : List PropT) (T2 : List NodeT) (W w : World) (A : Act) (hsz : A.tmps.size = 29) (hat : at_ < n) (hZp : pv.ownBlock ≠ some Z) (hZg : Z ≠ gT) (hpg : pv.ownBlock ≠ some gT) (hnd : ∃ cs, Holds W gT cs 76)
    (a1 : A.tmps.getD 1 undef = .int .i64 at_) (a2 : A.tmps.getD 2 undef = .func (.func fn) #[] caps) (a7 : A.tmps.getD 7 undef = .pointer (some ⟨Z, 0, none⟩))
    (hcell : ∀ wx, Keeps (fun b => pv.ownBlock = some b) W wx → wx.cell? ⟨gT, at_ * 3 + 2, none⟩ = some pv ∧ wx.frozen? ⟨gT, at_ * 3 + 2, none⟩ = false)
    (heg : ∀ args w, (callFunc fn args).run Tryz.prog w = .ok (.enter fn args) w) (hcl : Hid (∀ wx, Keeps (fun _ => False) W wx → Calls Tryz.prog fn (#[pv] ++ caps) wx fun e w' => ∃ rv, e = .returned rv ∧ PropRow w' base rv ps2 ∧ Keeps (fun b => pv.ownBlock = some b) wx w'))
    (hput : ∀ wx rv, PropRow wx base rv ps2 → Keeps (fun b => pv.ownBlock = some b) W wx → TreeRow (wx.setCell ⟨gT, at_ * 3 + 2, none⟩ rv) base (.slice (some ⟨gT, 0, none⟩) n cap) T2)
    (hS : ChgS Z gT n cap pv W w) (hX : Keeps (fun _ => False) W w)
    (hQ : ∀ c w', SameBut (chgOps 2) A c → ChgS Z gT n cap pv W w' → TreeRow w' base (.slice (some ⟨gT, 0, none⟩) n cap) T2 → Q .normal c w') :
    wpAny Tryz.prog .any (chgOps 2) Q (chgOps 2).size (Array.replicate (chgOps 2).size false) A w := by
  refine wpAny_inv2 (fun l c wx => RInv (chgOps 2) A (ChgF base Z gT n cap at_ fn caps pv ps2 T2) (ChgS Z gT n cap pv W) l c wx ∧ ChgX pv W l wx) chg2 ?hend ?hstep _ _ _ _ (by simp) (by simp) ⟨RInv.start hS, fun _ => hX, fun _ => hX.mono (fun _ _ e => e.elim)⟩
  case hend =>
    intro l c wx hI hl
    have h1 : TreeRow wx base (.slice (some ⟨gT, 0, none⟩) n cap) T2 := hI.1.2.2.2 13 (by rw [chg2n]; decide) (hl 13 (by rw [chg2n]; decide))
    exact hQ c wx hI.1.1 hI.1.2.1 h1
  clear hX
  intro l c wx hI i' op ho hl hall K' hK'
  have hi13 : i' < 14 := by rw [← chg2n]; exact (Array.getElem?_eq_some_iff.1 ho).1
  simp only [chgOps, regOps, Tryz.f108, Option.getD_some, reduceIte, Nat.reduceEqDiff] at ho
  have hS := hI.1.2.1
  have hii : (at_ : Int) < n := by omega
  have hii0 : (0 : Int) ≤ at_ := by omega
  have s1 := (hI.1.slot 1 (by kernel_rfl)).trans a1
  have s2 := (hI.1.slot 2 (by kernel_rfl)).trans a2
  have s7 := (hI.1.slot 7 (by kernel_rfl)).trans a7
  simp only [Array.getD_eq_getD_getElem?] at s1 s2 s7
  have hic : i' = 0 ∨ i' = 1 ∨ i' = 2 ∨ i' = 3 ∨ i' = 4 ∨ i' = 5 ∨ i' = 6 ∨ i' = 7 ∨ i' = 8 ∨ i' = 9 ∨ i' = 10 ∨ i' = 11 ∨ i' = 12 ∨ i' = 13 := by omega
  rcases hic with rfl | rfl | rfl | rfl | rfl | rfl | rfl | rfl | rfl | rfl | rfl | rfl | rfl | rfl
  all_goals cases ho
  · go_simp
    exact hK' _ _ ⟨hI.1.stepL chg2a 0 15 rfl (by rw [hsz]; decide) _ _ rfl hall hS (fun _ _ _ h => h) rfl, hI.2.keep 0 (fun h => h) (fun h => h)⟩
  · have e0 : c.tmps.getD 15 undef = .pointer (some ⟨Z, 0, none⟩) := hI.1.fact 0 15 rfl (listed hall 0 (by kernel_rfl))
    simp only [Array.getD_eq_getD_getElem?] at e0
    have hX := hS.1.cell 0
    go_simp
    exact hK' _ _ ⟨hI.1.stepL chg2a 1 16 rfl (by rw [hsz]; decide) _ _ rfl hall hS (fun _ _ _ h => h) rfl, hI.2.keep 1 (fun h => h) (fun h => h)⟩
  · go_simp
    exact hK' _ _ ⟨hI.1.stepL chg2a 2 17 rfl (by rw [hsz]; decide) _ _ rfl hall hS (fun _ _ _ h => h) rfl, hI.2.keep 2 (fun h => h) (fun h => h)⟩
  · go_simp
    exact hK' _ _ ⟨hI.1.stepL chg2a 3 18 rfl (by rw [hsz]; decide) _ _ rfl hall hS (fun _ _ _ h => h) rfl, hI.2.keep 3 (fun h => h) (fun h => h)⟩
  · go_simp
    exact hK' _ _ ⟨hI.1.stepL chg2a 4 19 rfl (by rw [hsz]; decide) _ _ rfl hall hS (fun _ _ _ h => h) rfl, hI.2.keep 4 (fun h => h) (fun h => h)⟩
  · have e4 : c.tmps.getD 19 undef = .pointer (some ⟨Z, 0, none⟩) := hI.1.fact 4 19 rfl (listed hall 4 (by kernel_rfl))
    simp only [Array.getD_eq_getD_getElem?] at e4
    have hX := hS.1.cell 0
    go_simp
    exact hK' _ _ ⟨hI.1.stepL chg2a 5 20 rfl (by rw [hsz]; decide) _ _ rfl hall hS (fun _ _ _ h => h) rfl, hI.2.keep 5 (fun h => h) (fun h => h)⟩
  · go_simp
    exact hK' _ _ ⟨hI.1.stepL chg2a 6 21 rfl (by rw [hsz]; decide) _ _ rfl hall hS (fun _ _ _ h => h) rfl, hI.2.keep 6 (fun h => h) (fun h => h)⟩
  · have e5 : c.tmps.getD 20 undef = .slice (some ⟨gT, 0, none⟩) n cap := hI.1.fact 5 20 rfl (listed hall 5 (by kernel_rfl))
    simp only [Array.getD_eq_getD_getElem?] at e5
    have e6 : c.tmps.getD 21 undef = .int .i64 at_ := hI.1.fact 6 21 rfl (listed hall 6 (by kernel_rfl))
    simp only [Array.getD_eq_getD_getElem?] at e6
    go_simp
    exact hK' _ _ ⟨hI.1.stepL chg2a 7 22 rfl (by rw [hsz]; decide) _ _ rfl hall hS (fun _ _ _ h => h) rfl, hI.2.keep 7 (fun h => h) (fun h => h)⟩
  · have e7 : c.tmps.getD 22 undef = .pointer (some ⟨gT, at_ * 3, none⟩) := hI.1.fact 7 22 rfl (listed hall 7 (by kernel_rfl))
    simp only [Array.getD_eq_getD_getElem?] at e7
    go_simp
    exact hK' _ _ ⟨hI.1.stepL chg2a 8 23 rfl (by rw [hsz]; decide) _ _ rfl hall hS (fun _ _ _ h => h) rfl, hI.2.keep 8 (fun h => h) (fun h => h)⟩
  · have e8 : c.tmps.getD 23 undef = .pointer (some ⟨gT, at_ * 3 + 2, none⟩) := hI.1.fact 8 23 rfl (listed hall 8 (by kernel_rfl))
    simp only [Array.getD_eq_getD_getElem?] at e8
    have u10 := hI.1.2.2.1.2.unlisted hl (j := 10) (by kernel_rfl)
    have hX := (hcell wx ((hI.2.1 u10).mono (fun _ _ e => e.elim))).1
    go_simp
    exact hK' _ _ ⟨hI.1.stepL chg2a 9 24 rfl (by rw [hsz]; decide) _ _ rfl hall hS (fun _ _ _ h => h) rfl, hI.2.keep 9 (fun h => h) (fun h => h)⟩
  · have e3 : c.tmps.getD 18 undef = .func (.func fn) #[] caps := hI.1.fact 3 18 rfl (listed hall 3 (by kernel_rfl))
    simp only [Array.getD_eq_getD_getElem?] at e3
    have e9 : c.tmps.getD 24 undef = pv := hI.1.fact 9 24 rfl (listed hall 9 (by kernel_rfl))
    simp only [Array.getD_eq_getD_getElem?] at e9
    have u13 := hI.1.2.2.1.2.unlisted hl (j := 13) (by kernel_rfl)
    have kq := hI.2.1 hl
    go_simp
    refine (hcl.out wx kq).mono ?_
    rintro e w2 ⟨rv, rfl, hr, k2⟩
    go_simp
    exact hK' _ _ ⟨hI.1.stepL chg2a 10 25 rfl (by rw [hsz]; decide) _ _ rfl hall (hS.call hZp k2) (fun j hj _ h => h.call (yes_no hj hl) (yes_no hj u13)) hr, ⟨(fun h => absurd rfl (listed_at h (by rw [hI.1.2.2.1.1, chg2n]; decide))), fun h => (kq.mono (fun _ _ e => e.elim)).trans k2 (fun _ _ e => e)⟩⟩
  · have e1 : c.tmps.getD 16 undef = .slice (some ⟨gT, 0, none⟩) n cap := hI.1.fact 1 16 rfl (listed hall 1 (by kernel_rfl))
    simp only [Array.getD_eq_getD_getElem?] at e1
    have e2 : c.tmps.getD 17 undef = .int .i64 at_ := hI.1.fact 2 17 rfl (listed hall 2 (by kernel_rfl))
    simp only [Array.getD_eq_getD_getElem?] at e2
    go_simp
    exact hK' _ _ ⟨hI.1.stepL chg2a 11 26 rfl (by rw [hsz]; decide) _ _ rfl hall hS (fun _ _ _ h => h) rfl, hI.2.keep 11 (fun h => h) (fun h => h)⟩
  · have e11 : c.tmps.getD 26 undef = .pointer (some ⟨gT, at_ * 3, none⟩) := hI.1.fact 11 26 rfl (listed hall 11 (by kernel_rfl))
    simp only [Array.getD_eq_getD_getElem?] at e11
    go_simp
    exact hK' _ _ ⟨hI.1.stepL chg2a 12 27 rfl (by rw [hsz]; decide) _ _ rfl hall hS (fun _ _ _ h => h) rfl, hI.2.keep 12 (fun h => h) (fun h => h)⟩
  · have e12 : c.tmps.getD 27 undef = .pointer (some ⟨gT, at_ * 3 + 2, none⟩) := hI.1.fact 12 27 rfl (listed hall 12 (by kernel_rfl))
    simp only [Array.getD_eq_getD_getElem?] at e12
    have hr : PropRow wx base (c.tmps.getD 25 undef) ps2 := hI.1.fact 10 25 rfl (listed hall 10 (by kernel_rfl))
    generalize hc25 : c.tmps.getD 25 undef = rv at hr
    obtain ⟨a2, c2, hrv⟩ := row_slice hr.1
    subst hrv
    simp only [Array.getD_eq_getD_getElem?] at hc25
    have kq := hI.2.2 hl
    obtain ⟨n0, n1⟩ := hcell wx kq
    obtain ⟨ncs, hH⟩ := hnd
    have hH0 := hH.keeps kq hpg
    go_simp
    exact hK' _ _ ⟨hI.1.stepNL 13 rfl _ rfl hall (hS.put hZg _) (fun j hj _ h => by
      by_cases e : j = 10
      · subst e; exact PropRow.set h hH0 (by decide) _ _
      · exact h.put (yes_no hj hl) e) (hput wx _ hr kq), ⟨(fun h => absurd ((listed_set h).symm.trans (listed hall 10 (by kernel_rfl))) (by decide)), (fun h => absurd rfl (listed_at h (by rw [hI.1.2.2.1.1, chg2n]; decide)))⟩⟩
end Go.Proofs.YtjfkjnakmmkkiaaGreat

namespace Go.Proofs.YtjfkjnakmmkkiaaGreat
open Go.RowKit

theorem idx_range (n i : Nat) (h : i < n) : (List.range n).idxOf i = i := by
  induction n with
  | zero => omega
  | succ n ih =>
    rw [List.range_succ]
    by_cases e : i < n
    · rw [List.idxOf_append, if_pos (by simpa using e), ih e]
    · have : i = n := by omega
      subst this
      rw [List.idxOf_append, if_neg (by simp)]
      simp
theorem sorted_self {T : List NodeT} (hc : checkT T = 0) (h0 : 0 < T.length) : sortedT T = T := by
  have hp := check_parts hc
  have hw := walked_ord hp.2.1 h0
  rw [hp.2.2.1] at hw
  have ho : ordT T = List.range T.length := by
    have := hw.symm
    rw [Bool.and_eq_true] at this
    exact of_decide_eq_true this.1
  have hpar := par_of_named hp.2.1
  have hr := named_root hp.2.1 h0
  unfold sortedT
  rw [ho]
  apply List.ext_getElem
  · simp
  · intro i h1 h2
    have hi : i < T.length := h2
    rw [List.getElem_map, List.getElem_range]
    unfold moveT
    rw [nameOf_at hi, propsOf_at hi]
    by_cases e : i = 0
    · subst e
      rw [parOf_at hi]; rfl
    · have e0 : 0 < i := by omega
      obtain ⟨hlt, hpe⟩ := parN_lt hpar e0 hi
      rw [if_neg e, ho, idx_range _ _ (by omega), hpe, parOf_at hi]
theorem propCells_setv : ∀ (ps : List PropT) (k : Nat) (hk : k < ps.length) (x : ByteArray), propCells (ps.set k ⟨ps[k].name, x⟩) = (propCells ps).set (k * 2 + 1) (.string x)
  | p :: ps, 0, _, _ => rfl
  | p :: ps, k + 1, hk, x => by
    have := propCells_setv ps k (by simpa using hk) x
    rw [show (k + 1) * 2 + 1 = k * 2 + 1 + 1 + 1 from by omega]
    simp only [List.set_cons_succ, propCells, List.getElem_cons_succ]
    rw [this]
/-- The closure of Set. -/
theorem tree_Set1 (base bo bk bn bv : Nat) (v : Value) (ps : List PropT) (name value : ByteArray) (w : World) (hr : PropRow w base v ps) (hl : ps.length ≤ 1000) (hp : PropOk ⟨name, value⟩) (hbase : base ≤ w.heap.size)
    (ho : Holds w bo #[.bool (hasT ps name)] 4) (hk : Holds w bk #[.int .i64 (lowT ps name)] 3) (hn : Holds w bn #[.string name] 9) (hv : Holds w bv #[.string value] 9) :
    Calls Tryz.prog 109 #[v, .pointer (some ⟨bo, 0, none⟩), .pointer (some ⟨bk, 0, none⟩), .pointer (some ⟨bn, 0, none⟩), .pointer (some ⟨bv, 0, none⟩)] w fun e w' => ∃ v', e = .returned v' ∧ PropRow w' base v' (putT ps ⟨name, value⟩) ∧ Keeps (fun b => v.ownBlock = some b) w w' := by
  have x0 := ho.cell 0
  have x1 := hk.cell 0
  have x2 := hn.cell 0
  have x3 := hv.cell 0
  have hle := low_le ps name
  cases hh : hasT ps name with
  | false =>
    rw [hh] at x0
    have hpe := Lib.hid (show putT ps ⟨name, value⟩ = insP ps (lowT ps name) ⟨name, value⟩ from by unfold putT insP restT; simp only [hh]; rfl)
    have hb1 : Below w.heap.size w (w.alloc (.cells #[.string name, .string value] 83)) := (Below.refl _ _).alloc (Nat.le_refl _) _
    have hins := Lib.hid (props_Insert base w.heap.size v ps (lowT ps name) ⟨name, value⟩ _ (hr.new hb1) hle hl (Holds.new w #[.string name, .string value] 83) (fun e => Nat.lt_irrefl _ (hr.1.lt _ e).2) hp (by simp; omega))
    have HR := Lib.hid hr
    obtain ⟨va, vc, rfl⟩ := row_slice hr.1
    clear hr ho hk hn hv hh
    generalize lowT ps name = k at *
    go_enter Tryz.func109, Tryz.ntmps109
    go_wp2_with fail
    refine hins.out.mono ?_
    rintro e w2 ⟨v2, rfl, hr2, k2⟩
    go_wp2_with fail
    go_ret
    exact ⟨_, rfl, by rw [hpe.out]; exact hr2, (Keeps.of_fresh hb1 (fun b => (Value.slice va ps.length vc).ownBlock = some b)).trans k2 (fun _ _ e => e)⟩
  | true =>
    rw [hh] at x0
    have hlt : lowT ps name < ps.length := by
      by_cases e : lowT ps name < ps.length
      · exact e
      · rw [has_none (by omega)] at hh; cases hh
    have hnm : ps[lowT ps name].name = name := by
      rw [has_at hlt] at hh
      exact (eqS_iff _ _).1 hh
    have hpe : putT ps ⟨name, value⟩ = ps.set (lowT ps name) ⟨ps[lowT ps name].name, value⟩ := by
      unfold putT restT
      simp only [hh, if_true]
      rw [List.set_eq_take_append_cons_drop, if_pos hlt, hnm]
    obtain ⟨g, cap', ev, -, hg⟩ := hr.1.form (by omega)
    subst ev
    obtain ⟨_, cur, hH⟩ := owned_holds hr.1 (g := g) rfl
    have hlen := propCells_len ps
    have c0 : w.cell? ⟨g, lowT ps name * 2 + 1, none⟩ = some ((propCells ps)[lowT ps name * 2 + 1]'(by omega)) := (hr.1.cellAt _ (by omega)).trans (List.getElem?_eq_getElem (by omega))
    have cf := hH.free (lowT ps name * 2 + 1)
    obtain ⟨s1, s2⟩ := hr.1.stored (lowT ps name * 2 + 1) (.string value)
    have HF := Lib.hid (show PropRow (w.setCell ⟨g, lowT ps name * 2 + 1, none⟩ (.string value)) base (.slice (some ⟨g, 0, none⟩) ps.length cap') (putT ps ⟨name, value⟩) from by
      rw [hpe]
      refine ⟨?_, fun q hq => ?_⟩
      · rw [propCells_setv ps _ hlt, List.length_set]; exact s1
      · rcases List.mem_or_eq_of_mem_set hq with h | h
        · exact hr.2 q h
        · rw [h, hnm]; exact hp)
    have hk2 : ((lowT ps name : Nat) : Int) < (ps.length : Int) := by omega
    have hK := Lib.hid (show Keeps (fun b => (Value.slice (some ⟨g, 0, none⟩) ps.length cap').ownBlock = some b) w (w.setCell ⟨g, lowT ps name * 2 + 1, none⟩ (.string value)) from (Keeps.refl (fun b => (Value.slice (some ⟨g, 0, none⟩) ps.length cap').ownBlock = some b) w).setCell (p := ⟨g, lowT ps name * 2 + 1, none⟩) (Or.inr (show some g = some g from rfl)) _)
    generalize (propCells ps)[lowT ps name * 2 + 1]'(by omega) = ov at c0
    clear hr ho hk hn hv hh hpe s1 s2 hH hnm hlen
    generalize putT ps ⟨name, value⟩ = qs at HF ⊢
    generalize lowT ps name = k at *
    go_enter Tryz.func109, Tryz.ntmps109
    go_wp2_with fail
    go_ret
    exact ⟨_, rfl, HF.out, hK.out⟩

set_option maxRecDepth 100000 in
set_option maxHeartbeats 4000000 in
theorem tree_changed (R : Nat → Prop) (v : Value) (T : List NodeT) (at_ fn : Nat) (caps : Array Value) (qs : List PropT) (w : World) (hT : NodesIn R w v T) (hc : checkT T = 0) (hat : at_ < T.length) (heg : ∀ args w, (callFunc fn args).run Tryz.prog w = .ok (.enter fn args) w)
    (hcl : ∀ base u wx, Below w.heap.size w wx → w.heap.size ≤ base → base ≤ wx.heap.size → PropRow wx base u T[at_].props → Calls Tryz.prog fn (#[u] ++ caps) wx fun e w' => ∃ v', e = .returned v' ∧ PropRow w' base v' qs ∧ Keeps (fun b => u.ownBlock = some b) wx w') :
    Calls Tryz.prog 108 #[.agg #[v], .int .i64 at_, .func (.func fn) #[] caps] w fun e w' => ∃ v', e = .returned (.agg #[v']) ∧ TreeRow w' w.heap.size v' (T.set at_ ⟨T[at_].parent, T[at_].name, qs⟩) ∧ Below w.heap.size w w' := by
  obtain ⟨a, cap, rfl, hc1, hc2⟩ := hT.shape
  have h0 : 0 < T.length := by omega
  have hl2 := (limits_len (check_limits hc)).2
  have hp := check_parts hc
  have hS : Shape T := ⟨h0, par_of_named hp.2.1, named_root hp.2.1 h0⟩
  have hwt := Lib.hid (fun wx hx => walk_TreeS R (.slice a T.length cap) T wx hx hS (dis_check hc) (by omega) (check_props hc))
  have hss := sorted_self hc h0
  have HT := Lib.hid hT
  have HCL := Lib.hid hcl
  have hb0 : Below w.heap.size w ((w.alloc (.cells #[.slice a T.length cap] 25)).alloc (.cells #[.slice none 0 0] 25)) := ((Below.refl _ _).alloc (Nat.le_refl _) _).alloc (by simp) _
  have hRB := Holds.newAt (w := w.alloc (.cells #[.slice a T.length cap] 25)) (B := w.heap.size + 1) (by simp) #[.slice none 0 0] 25
  have hTB := (Holds.new w #[.slice a T.length cap] 25).alloc (.cells #[.slice none 0 0] 25)
  have hNN := HT.out.new hb0
  clear hT hcl hp hS hc
  go_enter Tryz.func108, Tryz.ntmps108
  go_wp2_with fail
  refine (hwt.out _ (by exact hNN)).mono ?_
  rintro e w1 ⟨tv, gP, l, rfl, hr, hgP, hPP, hll, -, hb1⟩
  rw [hss] at hr
  obtain ⟨gT, tc, rfl⟩ : ∃ gT tc, tv = .slice (some ⟨gT, 0, none⟩) T.length tc := by
    obtain ⟨_, _, g2, _⟩ := hr.row
    obtain ⟨g, c, e, _⟩ := g2.form h0
    exact ⟨g, c, e⟩
  have hgl1 : gT < w1.heap.size := tree_own_lt hr.row rfl
  have hbz : Below w1.heap.size w1 (w1.alloc (.cells #[.slice (some ⟨gT, 0, none⟩) T.length tc] 25)) := (Below.refl _ _).alloc (Nat.le_refl _) _
  have hr1 := hr.new hbz
  have hZ := Holds.new w1 #[.slice (some ⟨gT, 0, none⟩) T.length tc] 25
  obtain ⟨pv, p0, hpr, hpg, hgl, hcell, hput⟩ := hr1.put at_ hat
  have hnd : ∃ cs, Holds (w1.alloc (.cells #[.slice (some ⟨gT, 0, none⟩) T.length tc] 25)) gT cs 76 := (tree_own_holds hr1.row rfl).2
  have hZp : pv.ownBlock ≠ some w1.heap.size := fun e => owns_ne_holds hpr.1 hZ (by decide) e
  have hb2 : Below w.heap.size w w1 := hb0.trans (hb1.mono (by simp; omega))
  have hb3 := hb2.trans (hbz.mono hb2.size)
  have hRB1 := ((hRB.keeps (Keeps.of_fresh hb1 (fun _ => False)) (fun e => e)).keeps (Keeps.of_fresh hbz (fun _ => False)) (fun e => e))
  have hbl : w.heap.size ≤ ((w.alloc (.cells #[.slice a T.length cap] 25)).alloc (.cells #[.slice none 0 0] 25)).heap.size := by simp; omega
  have hbw : ((w.alloc (.cells #[.slice a T.length cap] 25)).alloc (.cells #[.slice none 0 0] 25)).heap.size ≤ w1.heap.size := hb1.size
  generalize ((w.alloc (.cells #[.slice a T.length cap] 25)).alloc (.cells #[.slice none 0 0] 25)).heap.size = b2 at *
  have hcl2 : Hid (∀ wx, Keeps (fun _ => False) (w1.alloc (.cells #[.slice (some ⟨gT, 0, none⟩) T.length tc] 25)) wx → Calls Tryz.prog fn (#[pv] ++ caps) wx fun e w' => ∃ rv, e = .returned rv ∧ PropRow w' b2 rv qs ∧ Keeps (fun b => pv.ownBlock = some b) wx w') :=
    Lib.hid (fun wx k => HCL.out b2 pv wx (hb3.trans (k.below hb3.size (fun _ _ e => e))) hbl (Nat.le_trans hbw (Nat.le_trans (by simp) k.size)) ⟨ownsRow_keeps hpr.1 k (fun _ _ e => e), hpr.2⟩)
  have hown : ∀ b, pv.ownBlock = some b → w.heap.size ≤ b ∧ ∃ cur, Holds (w1.alloc (.cells #[.slice (some ⟨gT, 0, none⟩) T.length tc] 25)) b cur 83 := fun b e => by
    obtain ⟨q1, q2⟩ := owned_holds hpr.1 e
    exact ⟨by omega, q2⟩
  have hgb : w.heap.size ≤ gT := by have := (tree_own_holds hr1.row (g := gT) rfl).1; omega
  have hZ1 : w1.heap.size ≠ gT := by omega
  have hRo : pv.ownBlock ≠ some (w.heap.size + 1) := fun e => by
    obtain ⟨_, cur, q⟩ := hown _ e
    exact holds_ne q hRB1 (by decide) rfl
  have hRg : w.heap.size + 1 ≠ gT := fun e => by
    obtain ⟨cs, q⟩ := hnd
    exact holds_ne hRB1 q (by decide) e
  clear hr hNN hPP hb0 hRB hTB HCL hll hr1 hb2 hpr hwt
  go_wp2_with fail
  generalize hWe : w1.alloc (.cells #[.slice (some ⟨gT, 0, none⟩) T.length tc] 25) = W at *
  refine wp_region_any (by kernel_rfl) ?_
  refine wpAny_ops (ops' := chgOps 2) (by kernel_rfl) ?_
  refine chg_region2 b2 w1.heap.size gT T.length tc at_ fn caps pv qs (T.set at_ ⟨T[at_].parent, T[at_].name, qs⟩) W _ _ rfl hat hZp hZ1 hpg hnd rfl rfl rfl hcell heg hcl2 (fun wx rv h k => hput wx rv qs h k) ⟨hZ, (Keeps.refl _ _).drew⟩ ((Keeps.refl _ _).drew) ?_
  intro c w2 hsb hS2 hT2
  obtain ⟨y15, y16, y17, y18, y19, y20, y21, y22, y23, y24, y25, y26, y27, hc⟩ := hsb.ex [15, 16, 17, 18, 19, 20, 21, 22, 23, 24, 25, 26, 27] (by kernel_rfl)
  subst hc
  simp only [List.setIfInBounds_toArray, List.set_cons_zero, List.set_cons_succ]
  have hk2 := hS2.2
  have hRB2 := hRB1.keeps hk2 (fun e => by rcases e with e | e; exact hRo e; exact hRg e)
  have hb4 : Below w.heap.size w w2 := hb3.trans (hk2.below hb3.size (fun i hi e => by
    rcases e with e | e
    · have := (hown i e).1; omega
    · omega))
  have z0 := hS2.1.cell 0
  have r0 := hRB2.cell 0
  have rf := hRB2.free 0
  have hfin := (hT2.base hbl).set hRB2 (by decide) (by decide) 0 (.slice (some ⟨gT, 0, none⟩) T.length tc)
  have q0 := (hRB2.set 0 (.slice (some ⟨gT, 0, none⟩) T.length tc)).cell 0
  have hb5 := hb4.setCell (p := ⟨w.heap.size + 1, 0, none⟩) (by simp) (.slice (some ⟨gT, 0, none⟩) T.length tc)
  have HF := Lib.hid (And.intro hfin hb5)
  clear hfin hb5 hS2 hT2 hk2 hRB2 hRB1 hZ hb3 hb4 hcl2 hcell hput hnd hown hsb HT
  go_wp2_with fail
  exact bodyPost_ret (v := .agg #[.slice (some ⟨gT, 0, none⟩) T.length tc]) (by simp [results, Tryz.results108, go_sem, q0]) rfl ⟨_, rfl, HF.out⟩
end Go.Proofs.YtjfkjnakmmkkiaaGreat

namespace Go.Proofs.YtjfkjnakmmkkiaaGreat
open Go.RowKit

noncomputable def setOps (n : Nat) : Array Oper := (regOps (Tryz.f53.body.getD .skip) n).getD #[]
theorem setR : inRow2 .any (setOps 6) = true := by kernel_rfl
theorem setRa : apartB (setOps 6) = true := by kernel_rfl
theorem setRn : (setOps 6).size = 14 := by kernel_rfl
def SetF (X g o n cap at_ _ : Nat) (nd : NodeT) (pa : Option Addr) (pc : Nat) (name : ByteArray) (Nk No : Nat) (j : Nat) : Value → World → Prop := match j with
  | 0 => fun u _ => u = .pointer (some ⟨X, 0, none⟩)
  | 1 => fun u _ => u = .slice (some ⟨g, o, none⟩) n cap
  | 2 => fun u _ => u = .int .i64 at_
  | 3 => fun u _ => u = .pointer (some ⟨g, o + at_ * 3, none⟩)
  | 4 => fun u _ => u = .agg #[.int .i64 nd.parent, .string nd.name, .slice pa nd.props.length pc]
  | 5 => fun u _ => u = .string name
  | 6 => fun u _ => u = .tuple #[.int .i64 (lowT nd.props name), .bool (hasT nd.props name)]
  | 7 => fun u _ => u = .tuple #[.int .i64 (lowT nd.props name), .bool (hasT nd.props name)]
  | 8 => fun u _ => u = .int .i64 (lowT nd.props name)
  | 9 => fun u _ => u = .bool (hasT nd.props name)
  | 10 => fun u w => u = .pointer (some ⟨Nk, 0, none⟩) ∧ ∃ x, Holds w Nk #[x] 3
  | 11 => fun u w => u = .pointer (some ⟨No, 0, none⟩) ∧ ∃ x, Holds w No #[x] 4
  | 12 => fun _ w => Holds w Nk #[.int .i64 (lowT nd.props name)] 3
  | 13 => fun _ w => Holds w No #[.bool (hasT nd.props name)] 4
  | _ => fun _ _ => True
section
variable {X g o n cap at_ bn : Nat} {nd : NodeT} {pa : Option Addr} {pc : Nat} {name : ByteArray} {Nk No : Nat} {w w' : World} {j : Nat} {u : Value}
theorem SetF.new (h : SetF X g o n cap at_ bn nd pa pc name Nk No j u w) (k : Below w.heap.size w w') : SetF X g o n cap at_ bn nd pa pc name Nk No j u w' := by
  unfold SetF at *
  have kk := Keeps.of_fresh k (fun _ => False)
  split at h
  all_goals first
    | exact h
    | exact ⟨h.1, h.2.choose, h.2.choose_spec.keeps kk (fun e => e)⟩
    | exact Holds.keeps h kk (fun e => e)
theorem SetF.ghostNk {N2 : Nat} (h : SetF X g o n cap at_ bn nd pa pc name Nk No j u w) (h10 : j ≠ 10) (h12 : j ≠ 12) : SetF X g o n cap at_ bn nd pa pc name N2 No j u w := by
  unfold SetF at *
  split at h
  all_goals first
    | exact absurd rfl h10
    | exact absurd rfl h12
    | exact h
theorem SetF.ghostNo {N2 : Nat} (h : SetF X g o n cap at_ bn nd pa pc name Nk No j u w) (h11 : j ≠ 11) (h13 : j ≠ 13) : SetF X g o n cap at_ bn nd pa pc name Nk N2 j u w := by
  unfold SetF at *
  split at h
  all_goals first
    | exact absurd rfl h11
    | exact absurd rfl h13
    | exact h
theorem SetF.putNk {x : Value} (h : SetF X g o n cap at_ bn nd pa pc name Nk No j u w) (hH : Holds w Nk #[x] 3) : SetF X g o n cap at_ bn nd pa pc name Nk No j u (w.setCell ⟨Nk, 0, none⟩ (.int .i64 (lowT nd.props name))) := by
  unfold SetF at *
  split at h
  all_goals first
    | exact h
    | exact ⟨h.1, _, hH.set 0 _⟩
    | exact hH.set 0 _
    | exact ⟨h.1, h.2.choose, h.2.choose_spec.other _ _ (holds_ne h.2.choose_spec hH (by decide))⟩
    | exact Holds.other h _ _ (holds_ne h hH (by decide))
theorem SetF.putNo {x : Value} (h : SetF X g o n cap at_ bn nd pa pc name Nk No j u w) (hH : Holds w No #[x] 4) : SetF X g o n cap at_ bn nd pa pc name Nk No j u (w.setCell ⟨No, 0, none⟩ (.bool (hasT nd.props name))) := by
  unfold SetF at *
  split at h
  all_goals first
    | exact h
    | exact ⟨h.1, _, hH.set 0 _⟩
    | exact hH.set 0 _
    | exact ⟨h.1, h.2.choose, h.2.choose_spec.other _ _ (holds_ne h.2.choose_spec hH (by decide))⟩
    | exact Holds.other h _ _ (holds_ne h hH (by decide))
end

set_option maxHeartbeats 4000000 in
set_option maxRecDepth 100000 in
theorem set_region {Q : Exit → Act → World → Prop} (X g o n cap at_ bn : Nat) (nd : NodeT) (pa : Option Addr) (pc : Nat) (name : ByteArray) (W w : World) (A : Act) (hsz : A.tmps.size = 60) (hat : at_ < n) (hgl : g < W.heap.size)
    (hXW : Holds W X #[.slice (some ⟨g, o, none⟩) n cap] 25) (hnW : Holds W bn #[.string name] 9)
    (q0 : W.cell? ⟨g, o + at_ * 3, none⟩ = some (.int .i64 nd.parent)) (q1 : W.cell? ⟨g, o + at_ * 3 + 1, none⟩ = some (.string nd.name)) (q2 : W.cell? ⟨g, o + at_ * 3 + 2, none⟩ = some (.slice pa nd.props.length pc))
    (ax : A.tmps.getD 4 undef = .pointer (some ⟨X, 0, none⟩)) (aa : A.tmps.getD 10 undef = .int .i64 at_) (an : A.tmps.getD 6 undef = .pointer (some ⟨bn, 0, none⟩))
    (hpr : Hid (∀ wx, Below W.heap.size W wx → Calls Tryz.prog 99 #[.agg #[.int .i64 nd.parent, .string nd.name, .slice pa nd.props.length pc], .string name] wx fun e w' => e = .returned (.tuple #[.int .i64 (lowT nd.props name), .bool (hasT nd.props name)]) ∧ Below wx.heap.size wx w'))
    (hS : Below W.heap.size W w)
    (hQ : ∀ c w' Nk No, SameBut (setOps 6) A c → Below W.heap.size W w' → c.tmps.getD 12 undef = .pointer (some ⟨Nk, 0, none⟩) → Holds w' Nk #[.int .i64 (lowT nd.props name)] 3 → c.tmps.getD 13 undef = .pointer (some ⟨No, 0, none⟩) → Holds w' No #[.bool (hasT nd.props name)] 4 → W.heap.size ≤ Nk → W.heap.size ≤ No → Q .normal c w') :
    wpAny Tryz.prog .any (setOps 6) Q (setOps 6).size (Array.replicate (setOps 6).size false) A w := by
  refine wpAny_inv2 (fun l c wx => ∃ Nk No, RInv (setOps 6) A (SetF X g o n cap at_ bn nd pa pc name Nk No) (fun wx => Below W.heap.size W wx) l c wx ∧ W.heap.size ≤ Nk ∧ W.heap.size ≤ No) setR ?hend ?hstep _ _ _ _ (by simp) (by simp) ⟨W.heap.size, W.heap.size, RInv.start hS, Nat.le_refl _, Nat.le_refl _⟩
  case hend =>
    rintro l c wx ⟨Nk, No, hI, hNk, hNo⟩ hl
    have hh : ∀ k, k < 14 → l.getD k false = true := fun k hk => hl k (by rw [setRn]; exact hk)
    obtain ⟨e10, _⟩ : c.tmps.getD 12 undef = .pointer (some ⟨Nk, 0, none⟩) ∧ ∃ x, Holds wx Nk #[x] 3 := hI.fact 10 12 rfl (hh 10 (by decide))
    obtain ⟨e11, _⟩ : c.tmps.getD 13 undef = .pointer (some ⟨No, 0, none⟩) ∧ ∃ x, Holds wx No #[x] 4 := hI.fact 11 13 rfl (hh 11 (by decide))
    have h12 : Holds wx Nk #[.int .i64 (lowT nd.props name)] 3 := hI.2.2.2 12 (by rw [setRn]; decide) (hh 12 (by decide))
    have h13 : Holds wx No #[.bool (hasT nd.props name)] 4 := hI.2.2.2 13 (by rw [setRn]; decide) (hh 13 (by decide))
    exact hQ c wx Nk No hI.1 hI.2.1 e10 h12 e11 h13 hNk hNo
  intro l c wx hI i' op ho hl hall K' hK'
  obtain ⟨Nk, No, hI, hNk, hNo⟩ := hI
  have hi13 : i' < 14 := by rw [← setRn]; exact (Array.getElem?_eq_some_iff.1 ho).1
  simp only [setOps, regOps, Tryz.f53, Option.getD_some, reduceIte, Nat.reduceEqDiff] at ho
  have hS := hI.2.1
  have hii : (at_ : Int) < n := by omega
  have hii0 : (0 : Int) ≤ at_ := by omega
  have sx := (hI.slot 4 (by kernel_rfl)).trans ax
  have sa := (hI.slot 10 (by kernel_rfl)).trans aa
  have sn := (hI.slot 6 (by kernel_rfl)).trans an
  simp only [Array.getD_eq_getD_getElem?] at sx sa sn
  have hic : i' = 0 ∨ i' = 1 ∨ i' = 2 ∨ i' = 3 ∨ i' = 4 ∨ i' = 5 ∨ i' = 6 ∨ i' = 7 ∨ i' = 8 ∨ i' = 9 ∨ i' = 10 ∨ i' = 11 ∨ i' = 12 ∨ i' = 13 := by omega
  rcases hic with rfl | rfl | rfl | rfl | rfl | rfl | rfl | rfl | rfl | rfl | rfl | rfl | rfl | rfl
  all_goals cases ho
  · go_simp
    exact hK' _ _ ⟨Nk, No, hI.step setRa 0 29 rfl (by rw [hsz]; decide) _ _ rfl hall hS (fun _ _ h => h) rfl, hNk, hNo⟩
  · have e0 : c.tmps.getD 29 undef = .pointer (some ⟨X, 0, none⟩) := hI.fact 0 29 rfl (listed hall 0 (by kernel_rfl))
    simp only [Array.getD_eq_getD_getElem?] at e0
    have hX := (hXW.keeps (Keeps.of_fresh hS (fun _ => False)) (fun e => e)).cell 0
    go_simp
    exact hK' _ _ ⟨Nk, No, hI.step setRa 1 30 rfl (by rw [hsz]; decide) _ _ rfl hall hS (fun _ _ h => h) rfl, hNk, hNo⟩
  · go_simp
    exact hK' _ _ ⟨Nk, No, hI.step setRa 2 31 rfl (by rw [hsz]; decide) _ _ rfl hall hS (fun _ _ h => h) rfl, hNk, hNo⟩
  · have e1 : c.tmps.getD 30 undef = .slice (some ⟨g, o, none⟩) n cap := hI.fact 1 30 rfl (listed hall 1 (by kernel_rfl))
    simp only [Array.getD_eq_getD_getElem?] at e1
    have e2 : c.tmps.getD 31 undef = .int .i64 at_ := hI.fact 2 31 rfl (listed hall 2 (by kernel_rfl))
    simp only [Array.getD_eq_getD_getElem?] at e2
    go_simp
    exact hK' _ _ ⟨Nk, No, hI.step setRa 3 32 rfl (by rw [hsz]; decide) _ _ rfl hall hS (fun _ _ h => h) rfl, hNk, hNo⟩
  · have e3 : c.tmps.getD 32 undef = .pointer (some ⟨g, o + at_ * 3, none⟩) := hI.fact 3 32 rfl (listed hall 3 (by kernel_rfl))
    simp only [Array.getD_eq_getD_getElem?] at e3
    have c0 := (hS.cell (p := ⟨g, o + at_ * 3, none⟩) hgl).trans q0
    have c1 := (hS.cell (p := ⟨g, o + at_ * 3 + 1, none⟩) hgl).trans q1
    have c2 := (hS.cell (p := ⟨g, o + at_ * 3 + 2, none⟩) hgl).trans q2
    go_simp
    exact hK' _ _ ⟨Nk, No, hI.step setRa 4 33 rfl (by rw [hsz]; decide) _ _ rfl hall hS (fun _ _ h => h) rfl, hNk, hNo⟩
  · have hX := (hnW.keeps (Keeps.of_fresh hS (fun _ => False)) (fun e => e)).cell 0
    go_simp
    exact hK' _ _ ⟨Nk, No, hI.step setRa 5 34 rfl (by rw [hsz]; decide) _ _ rfl hall hS (fun _ _ h => h) rfl, hNk, hNo⟩
  · have e4 : c.tmps.getD 33 undef = .agg #[.int .i64 nd.parent, .string nd.name, .slice pa nd.props.length pc] := hI.fact 4 33 rfl (listed hall 4 (by kernel_rfl))
    simp only [Array.getD_eq_getD_getElem?] at e4
    have e5 : c.tmps.getD 34 undef = .string name := hI.fact 5 34 rfl (listed hall 5 (by kernel_rfl))
    simp only [Array.getD_eq_getD_getElem?] at e5
    go_simp
    refine (hpr.out wx hS).mono ?_
    rintro e w2 ⟨rfl, hb2⟩
    go_simp
    have hS2 : Below W.heap.size W w2 := hS.trans (hb2.mono hS.size)
    exact hK' _ _ ⟨Nk, No, hI.step setRa 6 35 rfl (by rw [hsz]; decide) _ _ rfl hall hS2 (fun _ _ h => SetF.new h hb2) rfl, hNk, hNo⟩
  · have e6 : c.tmps.getD 35 undef = .tuple #[.int .i64 (lowT nd.props name), .bool (hasT nd.props name)] := hI.fact 6 35 rfl (listed hall 6 (by kernel_rfl))
    simp only [Array.getD_eq_getD_getElem?] at e6
    go_simp
    exact hK' _ _ ⟨Nk, No, hI.step setRa 7 28 rfl (by rw [hsz]; decide) _ _ rfl hall hS (fun _ _ h => h) rfl, hNk, hNo⟩
  · have e7 : c.tmps.getD 28 undef = .tuple #[.int .i64 (lowT nd.props name), .bool (hasT nd.props name)] := hI.fact 7 28 rfl (listed hall 7 (by kernel_rfl))
    simp only [Array.getD_eq_getD_getElem?] at e7
    go_simp
    exact hK' _ _ ⟨Nk, No, hI.step setRa 8 36 rfl (by rw [hsz]; decide) _ _ rfl hall hS (fun _ _ h => h) rfl, hNk, hNo⟩
  · have e7 : c.tmps.getD 28 undef = .tuple #[.int .i64 (lowT nd.props name), .bool (hasT nd.props name)] := hI.fact 7 28 rfl (listed hall 7 (by kernel_rfl))
    simp only [Array.getD_eq_getD_getElem?] at e7
    go_simp
    exact hK' _ _ ⟨Nk, No, hI.step setRa 9 37 rfl (by rw [hsz]; decide) _ _ rfl hall hS (fun _ _ h => h) rfl, hNk, hNo⟩
  · go_simp
    have hb2 : Below wx.heap.size wx (wx.alloc (.cells #[.int .i64 0] 3)) := (Below.refl _ _).alloc (Nat.le_refl _) _
    have hS2 := hS.trans (hb2.mono hS.size)
    have us := hI.2.2.1.2.unlisted hl (j := 12) (by kernel_rfl)
    have hNn : W.heap.size ≤ wx.heap.size := hS.size
    have hJ := hI.other (F' := SetF X g o n cap at_ bn nd pa pc name wx.heap.size No) (fun j hj u hF => hF.ghostNk (yes_no hj hl) (yes_no hj us))
    exact hK' _ _ ⟨wx.heap.size, No, hJ.step setRa 10 12 rfl (by rw [hsz]; decide) _ _ rfl hall hS2 (fun _ _ h => SetF.new h hb2) ⟨rfl, _, Holds.new _ _ _⟩, hNn, hNo⟩
  · go_simp
    have hb2 : Below wx.heap.size wx (wx.alloc (.cells #[.bool false] 4)) := (Below.refl _ _).alloc (Nat.le_refl _) _
    have hS2 := hS.trans (hb2.mono hS.size)
    have us := hI.2.2.1.2.unlisted hl (j := 13) (by kernel_rfl)
    have hNn : W.heap.size ≤ wx.heap.size := hS.size
    have hJ := hI.other (F' := SetF X g o n cap at_ bn nd pa pc name Nk wx.heap.size) (fun j hj u hF => hF.ghostNo (yes_no hj hl) (yes_no hj us))
    exact hK' _ _ ⟨Nk, wx.heap.size, hJ.step setRa 11 13 rfl (by rw [hsz]; decide) _ _ rfl hall hS2 (fun _ _ h => SetF.new h hb2) ⟨rfl, _, Holds.new _ _ _⟩, hNk, hNn⟩
  · obtain ⟨ep, x, hHN⟩ : c.tmps.getD 12 undef = .pointer (some ⟨Nk, 0, none⟩) ∧ ∃ x, Holds wx Nk #[x] 3 := hI.fact 10 12 rfl (listed hall 10 (by kernel_rfl))
    simp only [Array.getD_eq_getD_getElem?] at ep
    have e8 : c.tmps.getD 36 undef = .int .i64 (lowT nd.props name) := hI.fact 8 36 rfl (listed hall 8 (by kernel_rfl))
    simp only [Array.getD_eq_getD_getElem?] at e8
    have n0 : wx.cell? ⟨Nk, 0, none⟩ = some x := hHN.cell 0
    have n1 : wx.frozen? ⟨Nk, 0, none⟩ = false := hHN.free 0
    go_simp
    have hS2 : Below W.heap.size W (wx.setCell ⟨Nk, 0, none⟩ (.int .i64 (lowT nd.props name))) := hS.setCell (p := ⟨Nk, 0, none⟩) hNk _
    exact hK' _ _ ⟨Nk, No, hI.stepN 12 rfl _ rfl hall hS2 (fun _ _ h => h.putNk hHN) (hHN.set 0 _), hNk, hNo⟩
  · obtain ⟨ep, x, hHN⟩ : c.tmps.getD 13 undef = .pointer (some ⟨No, 0, none⟩) ∧ ∃ x, Holds wx No #[x] 4 := hI.fact 11 13 rfl (listed hall 11 (by kernel_rfl))
    simp only [Array.getD_eq_getD_getElem?] at ep
    have e9 : c.tmps.getD 37 undef = .bool (hasT nd.props name) := hI.fact 9 37 rfl (listed hall 9 (by kernel_rfl))
    simp only [Array.getD_eq_getD_getElem?] at e9
    have n0 : wx.cell? ⟨No, 0, none⟩ = some x := hHN.cell 0
    have n1 : wx.frozen? ⟨No, 0, none⟩ = false := hHN.free 0
    go_simp
    have hS2 : Below W.heap.size W (wx.setCell ⟨No, 0, none⟩ (.bool (hasT nd.props name))) := hS.setCell (p := ⟨No, 0, none⟩) hNo _
    exact hK' _ _ ⟨Nk, No, hI.stepN 13 rfl _ rfl hall hS2 (fun _ _ h => h.putNo hHN) (hHN.set 0 _), hNk, hNo⟩
end Go.Proofs.YtjfkjnakmmkkiaaGreat

namespace Go.Proofs.YtjfkjnakmmkkiaaGreat
open Go.RowKit

theorem putT_len2 (l : List PropT) (p : PropT) : (putT l p).length = l.length + 1 - (if hasT l p.name = true then 1 else 0) := by
  have h1 := low_le l p.name
  have h2 := rest_le l p.name
  have h3 : restT l p.name = lowT l p.name + if hasT l p.name = true then 1 else 0 := rfl
  unfold putT
  simp only [List.length_append, List.length_take, List.length_cons, List.length_drop]
  cases h : hasT l p.name with
  | true => rw [h, if_pos rfl] at h3; simp only [if_true]; omega
  | false => rw [h, if_neg (by decide)] at h3; rw [if_neg (by decide)]; omega
theorem asc_of_check {T : List NodeT} (hc : checkT T = 0) (k : Nat) (hk : k < T.length) : ascT T[k].props = true := by
  have hp := check_parts hc
  have h := ((walked_iff (par_of_named hp.2.1) (named_root hp.2.1 (by omega))).1 hp.2.2.1).1 k hk
  rw [propsOf_at hk] at h; exact h
theorem set_fit {n : NodeT} (h : fitB n = true) (p : PropT) : fitB (setNode n p) = (decide ((putT n.props p).length ≤ 24) && decide (p.value.size ≤ 256)) := by
  unfold fitB at *
  rw [Bool.and_eq_true] at h
  have ha := List.all_eq_true.1 h.2
  show (decide ((putT n.props p).length ≤ 24) && (putT n.props p).all fun p => decide (p.value.size ≤ 256)) = _
  congr 1
  unfold putT
  rw [List.all_append, List.all_cons]
  rw [List.all_eq_true.2 (fun q hq => ha q (List.mem_of_mem_take hq)), List.all_eq_true.2 (fun q hq => ha q (List.mem_of_mem_drop hq))]
  simp
theorem set_limit {T : List NodeT} (hl : limitsT T = true) {k : Nat} (hk : k < T.length) (p : PropT) : limitsT (setAt T k p) = (decide ((putT T[k].props p).length ≤ 24) && decide (p.value.size ≤ 256)) := by
  have hs : setAt T k p = T.set k (setNode T[k] p) := by unfold setAt; rw [List.getElem?_eq_getElem hk]
  rw [hs]
  unfold limitsT at *
  rw [Bool.and_eq_true] at hl
  have ha := List.all_eq_true.1 hl.2
  rw [List.length_set, hl.1, Bool.true_and, ← set_fit (ha _ (List.getElem_mem hk))]
  cases hf : fitB (setNode T[k] p) with
  | true =>
    rw [List.all_eq_true]
    intro q hq
    rcases List.mem_or_eq_of_mem_set hq with h | h
    · exact ha q h
    · rw [h]; exact hf
  | false =>
    rw [List.all_eq_false]
    exact ⟨_, List.mem_set hk _, by simp [hf]⟩
theorem setT_ok {T : List NodeT} {s name value : ByteArray} {k : Nat} (hb : rBeginT T s = ((k : Int), 0)) : setT T s name value = if propB name = false then ([], 1) else if limitsT (setAt T k ⟨name, value⟩) = false then ([], 3) else (setAt T k ⟨name, value⟩, 0) := by
  unfold setT; rw [hb, if_neg (by simp)]; rfl
theorem enters_Set1 : ∀ args w, (callFunc 109 args).run Tryz.prog w = .ok (.enter 109 args) w := enters_of Tryz.func109 (by kernel_rfl) rfl

set_option maxRecDepth 100000 in
set_option maxHeartbeats 4000000 in
theorem tree_Set (R : Nat → Prop) (v : Value) (T : List NodeT) (s name value : ByteArray) (w : World) (hT : NodesIn R w v T) (hns : name.size ≤ 9223372036854775807) (hvs : value.size ≤ 9223372036854775807) :
    Calls Tryz.prog 53 #[.agg #[v], .string s, .string name, .string value] w (EditPost (setT T s name value) w) := by
  obtain ⟨a, cap, rfl, hc1, hc2⟩ := hT.shape
  have HT := Lib.hid hT.bound; clear hT
  have hbg := fun wx hx => tree_begin (fun g => g < w.heap.size) (.slice a T.length cap) T s wx hx
  obtain ⟨W0, hW0⟩ : ∃ W0, W0 = (((w.alloc (.cells #[.slice a T.length cap] 25)).alloc (.cells #[.string name] 9)).alloc (.cells #[.string value] 9)).alloc (.cells #[.slice none 0 0] 25) := ⟨_, rfl⟩
  have hb0 : Below w.heap.size w W0 := by rw [hW0]; exact ((((Below.refl _ _).alloc (Nat.le_refl _) _).alloc (by simp) _).alloc (by simp; omega) _).alloc (by simp; omega) _
  have hX0 : Holds W0 w.heap.size #[.slice a T.length cap] 25 := by rw [hW0]; exact (((Holds.new w #[.slice a T.length cap] 25).alloc _).alloc _).alloc _
  have hN0 : Holds W0 (w.heap.size + 1) #[.string name] 9 := by rw [hW0]; exact ((Holds.newAt (w := w.alloc (.cells #[.slice a T.length cap] 25)) (B := w.heap.size + 1) (by simp) #[.string name] 9).alloc _).alloc _
  have hV0 : Holds W0 (w.heap.size + 1 + 1) #[.string value] 9 := by rw [hW0]; exact (Holds.newAt (w := (w.alloc (.cells #[.slice a T.length cap] 25)).alloc (.cells #[.string name] 9)) (B := w.heap.size + 1 + 1) (by simp) #[.string value] 9).alloc _
  have hZ0 : Holds W0 (w.heap.size + 1 + 1 + 1) #[.slice none 0 0] 25 := by rw [hW0]; exact Holds.newAt (w := ((w.alloc (.cells #[.slice a T.length cap] 25)).alloc (.cells #[.string name] 9)).alloc (.cells #[.string value] 9)) (B := w.heap.size + 1 + 1 + 1) (by simp) #[.slice none 0 0] 25
  have hT0 : NodesIn (fun g => g < w.heap.size) W0 (.slice a T.length cap) T := HT.out.new hb0
  have hsz0 := hb0.size
  have hzl := hZ0.lt
  rcases begin_cases T s with ⟨hne, h10⟩ | ⟨hck, k, hk, hbe, hps⟩
  · have hE := Lib.hid (show setT T s name value = ([], (rBeginT T s).2) from by unfold setT; rw [if_pos hne])
    have hne' : ((rBeginT T s).2 != 0) = true := by simpa using hne
    rw [h10] at hbg
    have HBG := Lib.hid hbg
    clear hbg hne h10
    generalize (rBeginT T s).2 = c at *
    go_enter Tryz.func53, Tryz.ntmps53
    go_wp2_with fail
    rw [← hW0]
    refine (HBG.out _ (by exact hT0)).mono ?_
    rintro e w1 ⟨rfl, hb1⟩
    have hZ1 := hZ0.keeps (Keeps.of_fresh hb1 (fun _ => False)) (fun e => e)
    have hb2 := hb0.trans (hb1.mono hsz0)
    have z0 := hZ1.cell 0
    have zf := hZ1.free 0
    go_wp2_with fail
    have q0 : (w1.setCell ⟨w.heap.size + 1 + 1 + 1, 0, none⟩ (.slice none 0 0)).cell? ⟨w.heap.size + 1 + 1 + 1, 0, none⟩ = some (.slice none 0 0) := (hZ1.set 0 _).cell 0
    exact bodyPost_ret (v := .tuple #[.agg #[.slice none 0 0], .int .i64 c]) (by simp [results, Tryz.results53, go_sem, q0]) rfl ⟨_, by rw [hE.out], by rw [hE.out]; exact TreeRow.nil _ _, hb2.setCell (p := ⟨w.heap.size + 1 + 1 + 1, 0, none⟩) (by simp; omega) _⟩
  · rw [hbe] at hbg
    have HBG := Lib.hid hbg
    have hE := Lib.hid (setT_ok (name := name) (value := value) hbe)
    have hpn := Lib.hid (fun wx => tree_Property name wx hns)
    have hlim := check_limits hck
    have hl2 := (limits_len hlim).2
    have hpl := (check_props hck) T[k] (List.getElem_mem hk)
    have HCK := Lib.hid hck
    clear hbg hbe hck
    cases hpb : propB name with
    | false =>
      have hF := Lib.hid (show setT T s name value = ([], 1) from by rw [hE.out, if_pos hpb])
      have HPN := Lib.hid (fun wx => by have := hpn.out wx; rw [hpb] at this; exact this)
      clear hpn hpb hE
      go_enter Tryz.func53, Tryz.ntmps53
      go_wp2_with fail
      rw [← hW0]
      refine (HBG.out _ (by exact hT0)).mono ?_
      rintro e w1 ⟨rfl, hb1⟩
      have hZ1 := hZ0.keeps (Keeps.of_fresh hb1 (fun _ => False)) (fun e => e)
      have hN1 := hN0.keeps (Keeps.of_fresh hb1 (fun _ => False)) (fun e => e)
      have hb2 := hb0.trans (hb1.mono hsz0)
      have z0 := hZ1.cell 0
      have zf := hZ1.free 0
      have y0 := hN1.cell 0
      go_wp2_with fail
      refine (HPN.out _).mono ?_
      rintro e w2 ⟨rfl, rfl⟩
      go_wp2_with fail
      have q0 : (w1.setCell ⟨w.heap.size + 1 + 1 + 1, 0, none⟩ (.slice none 0 0)).cell? ⟨w.heap.size + 1 + 1 + 1, 0, none⟩ = some (.slice none 0 0) := (hZ1.set 0 _).cell 0
      exact bodyPost_ret (v := .tuple #[.agg #[.slice none 0 0], .int .i64 1]) (by simp [results, Tryz.results53, go_sem, q0]) rfl ⟨_, by rw [hF.out], by rw [hF.out]; exact TreeRow.nil _ _, hb2.setCell (p := ⟨w.heap.size + 1 + 1 + 1, 0, none⟩) (by simp; omega) _⟩
    | true =>
      have hF := Lib.hid (show setT T s name value = if limitsT (setAt T k ⟨name, value⟩) = false then ([], 3) else (setAt T k ⟨name, value⟩, 0) from by rw [hE.out, if_neg (by rw [hpb]; decide)])
      have HPN := Lib.hid (fun wx => by have := hpn.out wx; rw [hpb] at this; exact this)
      clear hpn hpb hE
      have hlm := set_limit hlim hk ⟨name, value⟩
      rw [putT_len2] at hlm
      have hset : setAt T k ⟨name, value⟩ = T.set k ⟨T[k].parent, T[k].name, putT T[k].props ⟨name, value⟩⟩ := by unfold setAt; rw [List.getElem?_eq_getElem hk]; rfl
      have HSET := Lib.hid hset
      have HLM := Lib.hid hlm
      clear hset hlm
      have hasc := asc_of_check HCK.out k hk
      go_enter Tryz.func53, Tryz.ntmps53
      go_wp2_with fail
      rw [← hW0]
      refine (HBG.out _ (by exact hT0)).mono ?_
      rintro e w1 ⟨rfl, hb1⟩
      have kk1 := Keeps.of_fresh hb1 (fun _ => False)
      have hZ1 := hZ0.keeps kk1 (fun e => e)
      have hN1 := hN0.keeps kk1 (fun e => e)
      have hX1 := hX0.keeps kk1 (fun e => e)
      have hV1 := hV0.keeps kk1 (fun e => e)
      have hT1 := hT0.new hb1
      have hb2 := hb0.trans (hb1.mono hsz0)
      have y0 := hN1.cell 0
      clear hZ0 hN0 hX0 hV0 hT0 hb0 hW0 hb1 kk1 HBG
      go_wp2_with fail
      refine (HPN.out _).mono ?_
      rintro e w2 ⟨rfl, rfl⟩
      obtain ⟨g, o, pa, pc, hva, hg, q0, q1, q2, hPP, hpc, hpc2, hns2, hp0, hp1⟩ := hT1.at k hk
      subst hva
      have hprop := Lib.hid (fun (wx : World) (hx : Below w1.heap.size w1 wx) => tree_property (fun g => g < w.heap.size) (.slice pa T[k].props.length pc) T[k] name wx (hPP.new hx) hasc hpl)
      have hgl1 : g < w1.heap.size := hg
      have hs1 := hb2.size
      clear hPP
      go_wp2_with fail
      refine wp_region_any (by kernel_rfl) ?_
      refine wpAny_ops (ops' := setOps 6) (by kernel_rfl) ?_
      refine set_region w.heap.size g o T.length cap k (w.heap.size + 1) T[k] pa pc name w1 w1.drew _ rfl hk hgl1 hX1 hN1 q0 q1 q2 rfl rfl rfl hprop ((Below.refl _ _).drew) ?_
      intro c w3 Nk No hsb hb3 ek hNk eo hNo hkl hol
      obtain ⟨y12, y13, y28, y29, y30, y31, y32, y33, y34, y35, y36, y37, hc⟩ := hsb.ex [12, 13, 28, 29, 30, 31, 32, 33, 34, 35, 36, 37] (by kernel_rfl)
      subst hc
      simp only [List.setIfInBounds_toArray, List.set_cons_zero, List.set_cons_succ] at ek eo ⊢
      have ek' : y12 = .pointer (some ⟨Nk, 0, none⟩) := ek
      have eo' : y13 = .pointer (some ⟨No, 0, none⟩) := eo
      subst ek'
      subst eo'
      have kk3 := Keeps.of_fresh hb3 (fun _ => False)
      have hZ3 := hZ1.keeps kk3 (fun e => e)
      have hX3 := hX1.keeps kk3 (fun e => e)
      have hN3 := hN1.keeps kk3 (fun e => e)
      have hV3 := hV1.keeps kk3 (fun e => e)
      have hT3 := hT1.new hb3
      have hb4 := hb2.trans (hb3.mono hb2.size)
      have q2' := (hb3.cell (p := ⟨g, o + k * 3 + 2, none⟩) hgl1).trans q2
      have x0 := hX3.cell 0
      have z0 := hZ3.cell 0
      have zf := hZ3.free 0
      have v0 := hV3.cell 0
      have o0 := hNo.cell 0
      have hpo : PropOk ⟨name, value⟩ := ⟨hns, hvs⟩
      have hcl : ∀ base u wx, Below w3.heap.size w3 wx → w3.heap.size ≤ base → base ≤ wx.heap.size → PropRow wx base u T[k].props → Calls Tryz.prog 109 (#[u] ++ #[.pointer (some ⟨No, 0, none⟩), .pointer (some ⟨Nk, 0, none⟩), .pointer (some ⟨w.heap.size + 1, 0, none⟩), .pointer (some ⟨w.heap.size + 1 + 1, 0, none⟩)]) wx fun e w' => ∃ v', e = .returned v' ∧ PropRow w' base v' (putT T[k].props ⟨name, value⟩) ∧ Keeps (fun b => u.ownBlock = some b) wx w' :=
        fun base u wx hbx _ hbb hr => by
          have kx := Keeps.of_fresh hbx (fun _ => False)
          exact tree_Set1 base No Nk (w.heap.size + 1) (w.heap.size + 1 + 1) u T[k].props name value wx hr hpl hpo hbb (hNo.keeps kx (fun e => e)) (hNk.keeps kx (fun e => e)) (hN3.keeps kx (fun e => e)) (hV3.keeps kx (fun e => e))
      have hch := Lib.hid (tree_changed (fun g => g < w.heap.size) (.slice (some ⟨g, o, none⟩) T.length cap) T k 109 _ (putT T[k].props ⟨name, value⟩) w3 hT3 HCK.out hk enters_Set1 hcl)
      have hs4 := hb4.size
      have hEr := Lib.hid (show ∀ (h : limitsT (setAt T k ⟨name, value⟩) = false), setT T s name value = ([], 3) from fun h => by rw [hF.out, if_pos h])
      have hOk := Lib.hid (show ∀ (h : limitsT (setAt T k ⟨name, value⟩) = true), setT T s name value = (T.set k ⟨T[k].parent, T[k].name, putT T[k].props ⟨name, value⟩⟩, 0) from fun h => by rw [hF.out, if_neg (by rw [h]; decide), HSET.out])
      have hZ4 : ∀ x : Value, ((w3.setCell ⟨w.heap.size + 1 + 1 + 1, 0, none⟩ x)).cell? ⟨w.heap.size + 1 + 1 + 1, 0, none⟩ = some x := fun x => (hZ3.set 0 x).cell 0
      have HZ4 := Lib.hid hZ4
      have HB4 := Lib.hid hb4
      have HZ3 := Lib.hid hZ3
      have hkl' : (k : Int) < T.length := by omega
      clear hZ4 hcl hpo hX3 hN3 hV3 hT3 hNk hNo hb3 kk3 hsb ek eo hX1 hN1 hV1 hZ1 hT1 hb2 q0 q1 q2 hprop hasc HPN y0 hb4 hZ3
      by_cases hval : 256 < value.size
      · have hbad : limitsT (setAt T k ⟨name, value⟩) = false := by rw [HLM.out]; simp; omega
        have hER := Lib.hid (hEr.out hbad)
        have hval' : decide ((256 : Int) < (value.size : Int)) = true := by simp; omega
        clear hEr hOk hch
        cases hhas : hasT T[k].props name with
        | true =>
          rw [hhas] at o0
          go_wp2_with fail
          exact bodyPost_ret (v := .tuple #[.agg #[.slice none 0 0], .int .i64 3]) (by simp [results, Tryz.results53, go_sem, HZ4.out]) rfl ⟨_, by rw [hER.out], by rw [hER.out]; exact TreeRow.nil _ _, HB4.out.setCell (p := ⟨w.heap.size + 1 + 1 + 1, 0, none⟩) (by simp; omega) _⟩
        | false =>
          rw [hhas] at o0
          by_cases h24 : T[k].props.length = 24
          · have h24' : ((T[k].props.length : Int) == 24) = true := by rw [h24]; rfl
            go_wp2_with fail
            exact bodyPost_ret (v := .tuple #[.agg #[.slice none 0 0], .int .i64 3]) (by simp [results, Tryz.results53, go_sem, HZ4.out]) rfl ⟨_, by rw [hER.out], by rw [hER.out]; exact TreeRow.nil _ _, HB4.out.setCell (p := ⟨w.heap.size + 1 + 1 + 1, 0, none⟩) (by simp; omega) _⟩
          · have h24' : ((T[k].props.length : Int) == 24) = false := by rw [beq_eq_false_iff_ne]; omega
            go_wp2_with fail
            exact bodyPost_ret (v := .tuple #[.agg #[.slice none 0 0], .int .i64 3]) (by simp [results, Tryz.results53, go_sem, HZ4.out]) rfl ⟨_, by rw [hER.out], by rw [hER.out]; exact TreeRow.nil _ _, HB4.out.setCell (p := ⟨w.heap.size + 1 + 1 + 1, 0, none⟩) (by simp; omega) _⟩
      · have hval' : decide ((256 : Int) < (value.size : Int)) = false := by simp; omega
        have hfp : T[k].props.length ≤ 24 := by
          have h := hlim
          unfold limitsT at h
          rw [Bool.and_eq_true] at h
          have := List.all_eq_true.1 h.2 _ (List.getElem_mem hk)
          unfold fitB at this
          rw [Bool.and_eq_true] at this
          exact of_decide_eq_true this.1
        cases hhas : hasT T[k].props name with
        | true =>
          rw [hhas] at o0
          have hgood : limitsT (setAt T k ⟨name, value⟩) = true := by rw [HLM.out, hhas]; simp; omega
          have hOK := Lib.hid (hOk.out hgood)
          clear hEr hOk
          go_wp2_with fail
          refine hch.out.mono ?_
          rintro e w5 ⟨v5, rfl, hr5, hb5⟩
          obtain ⟨sa, sc, rfl⟩ := tree_slice hr5
          have hZ5 := HZ3.out.keeps (Keeps.of_fresh hb5 (fun _ => False)) (fun e => e)
          have z5 := hZ5.cell 0
          have f5 := hZ5.free 0
          have r5 := (hr5.base (HB4.out.size)).set hZ5 (by decide) (by decide) 0 (.slice sa (T.set k ⟨T[k].parent, T[k].name, putT T[k].props ⟨name, value⟩⟩).length sc)
          have b5 := (HB4.out.trans (hb5.mono HB4.out.size)).setCell (p := ⟨w.heap.size + 1 + 1 + 1, 0, none⟩) (by simp; omega) (.slice sa (T.set k ⟨T[k].parent, T[k].name, putT T[k].props ⟨name, value⟩⟩).length sc)
          have c5 := (hZ5.set 0 (.slice sa (T.set k ⟨T[k].parent, T[k].name, putT T[k].props ⟨name, value⟩⟩).length sc)).cell 0
          have HF5 := Lib.hid (And.intro r5 (And.intro b5 c5))
          clear r5 b5 c5 hr5 hZ5 hb5 hch
          generalize (T.set k ⟨T[k].parent, T[k].name, putT T[k].props ⟨name, value⟩⟩) = T5 at *
          generalize hl5 : T5.length = n5 at *
          go_wp2_with fail
          exact bodyPost_ret (v := .tuple #[.agg #[.slice sa n5 sc], .int .i64 0]) (by simp [results, Tryz.results53, go_sem, HF5.out.2.2]) rfl ⟨_, by rw [hOK.out], by rw [hOK.out]; exact HF5.out.1, HF5.out.2.1⟩
        | false =>
          rw [hhas] at o0
          by_cases h24 : T[k].props.length = 24
          · have hbad : limitsT (setAt T k ⟨name, value⟩) = false := by rw [HLM.out, hhas, h24]; rfl
            have hER := Lib.hid (hEr.out hbad)
            have h24' : ((T[k].props.length : Int) == 24) = true := by rw [h24]; rfl
            clear hEr hOk hch
            go_wp2_with fail
            exact bodyPost_ret (v := .tuple #[.agg #[.slice none 0 0], .int .i64 3]) (by simp [results, Tryz.results53, go_sem, HZ4.out]) rfl ⟨_, by rw [hER.out], by rw [hER.out]; exact TreeRow.nil _ _, HB4.out.setCell (p := ⟨w.heap.size + 1 + 1 + 1, 0, none⟩) (by simp; omega) _⟩
          · have hgood : limitsT (setAt T k ⟨name, value⟩) = true := by rw [HLM.out, hhas]; simp; omega
            have hOK := Lib.hid (hOk.out hgood)
            have h24' : ((T[k].props.length : Int) == 24) = false := by rw [beq_eq_false_iff_ne]; omega
            clear hEr hOk
            go_wp2_with fail
            refine hch.out.mono ?_
            rintro e w5 ⟨v5, rfl, hr5, hb5⟩
            obtain ⟨sa, sc, rfl⟩ := tree_slice hr5
            have hZ5 := HZ3.out.keeps (Keeps.of_fresh hb5 (fun _ => False)) (fun e => e)
            have z5 := hZ5.cell 0
            have f5 := hZ5.free 0
            have r5 := (hr5.base (HB4.out.size)).set hZ5 (by decide) (by decide) 0 (.slice sa (T.set k ⟨T[k].parent, T[k].name, putT T[k].props ⟨name, value⟩⟩).length sc)
            have b5 := (HB4.out.trans (hb5.mono HB4.out.size)).setCell (p := ⟨w.heap.size + 1 + 1 + 1, 0, none⟩) (by simp; omega) (.slice sa (T.set k ⟨T[k].parent, T[k].name, putT T[k].props ⟨name, value⟩⟩).length sc)
            have c5 := (hZ5.set 0 (.slice sa (T.set k ⟨T[k].parent, T[k].name, putT T[k].props ⟨name, value⟩⟩).length sc)).cell 0
            have HF5 := Lib.hid (And.intro r5 (And.intro b5 c5))
            clear r5 b5 c5 hr5 hZ5 hb5 hch
            generalize (T.set k ⟨T[k].parent, T[k].name, putT T[k].props ⟨name, value⟩⟩) = T5 at *
            generalize hl5 : T5.length = n5 at *
            go_wp2_with fail
            exact bodyPost_ret (v := .tuple #[.agg #[.slice sa n5 sc], .int .i64 0]) (by simp [results, Tryz.results53, go_sem, HF5.out.2.2]) rfl ⟨_, by rw [hOK.out], by rw [hOK.out]; exact HF5.out.1, HF5.out.2.1⟩
end Go.Proofs.YtjfkjnakmmkkiaaGreat

open Go
namespace Go.Proofs.YtjfkjnakmmkkiaaGreat

structure SubOk (L : List NodeT) (O : List Nat) : Prop where
  asc : O.Pairwise (· < ·)
  lt : ∀ k ∈ O, k < L.length
  zero : 0 ∈ O
  par : ∀ k ∈ O, 0 < k → parN L k ∈ O
def subN (L : List NodeT) (O : List Nat) (k : Nat) : NodeT := ⟨if k = 0 then parOf L 0 else ((O.idxOf (parN L k) : Nat) : Int), nameOf L k, propsOf L k⟩
def subT (L : List NodeT) (O : List Nat) : List NodeT := O.map (subN L O)
theorem asc_ge {O : List Nat} (h : O.Pairwise (· < ·)) : ∀ i (hi : i < O.length), i ≤ O[i] := by
  intro i
  induction i with
  | zero => intro _; omega
  | succ i ih =>
    intro hi
    have := ih (by omega)
    have h2 := (List.pairwise_iff_getElem.1 h) i (i + 1) (by omega) hi (by omega)
    omega
theorem asc_nodup {O : List Nat} (h : O.Pairwise (· < ·)) : O.Nodup := h.imp (fun hab e => by omega)
theorem asc_idx {O : List Nat} (h : O.Pairwise (· < ·)) {a b : Nat} (ha : a ∈ O) (hb : b ∈ O) (hab : a < b) : O.idxOf a < O.idxOf b := by
  obtain ⟨i, hi, rfl⟩ := List.getElem_of_mem ha
  obtain ⟨j, hj, rfl⟩ := List.getElem_of_mem hb
  rw [idx_at (asc_nodup h) i hi, idx_at (asc_nodup h) j hj]
  rcases Nat.lt_trichotomy i j with e | e | e
  · exact e
  · subst e; omega
  · have := (List.pairwise_iff_getElem.1 h) j i hj hi e; omega
theorem dep_mono1 (T : List NodeT) : ∀ (f : Nat) (u : Int), depF T f u ≤ depF T (f + 1) u := by
  intro f
  induction f with
  | zero => intro u; exact Nat.zero_le _
  | succ f ih =>
    intro u
    unfold depF
    split
    · exact Nat.add_le_add_right (ih _) 1
    · exact Nat.le_refl _
theorem dep_mono (T : List NodeT) (u : Int) (f g : Nat) (h : f ≤ g) : depF T f u ≤ depF T g u := by
  induction h with
  | refl => exact Nat.le_refl _
  | step _ ih => exact Nat.le_trans ih (dep_mono1 T _ u)
section
variable {L : List NodeT} {O : List Nat}
theorem SubOk.len (h : SubOk L O) : O.length ≤ L.length := by
  by_cases e : O.length ≤ L.length
  · exact e
  · have h1 := asc_ge h.asc (O.length - 1) (by omega)
    have h2 := h.lt _ (List.getElem_mem (show O.length - 1 < O.length by omega))
    omega
theorem SubOk.pos (h : SubOk L O) : 0 < O.length := List.length_pos_of_mem h.zero
theorem SubOk.first (h : SubOk L O) : O[0]'h.pos = 0 := by
  obtain ⟨j, hj, e⟩ := List.getElem_of_mem h.zero
  have h1 := asc_ge h.asc j hj
  have : j = 0 := by omega
  subst this; exact e
theorem sub_len : (subT L O).length = O.length := by unfold subT; simp
theorem sub_at (i : Nat) (hi : i < O.length) : (subT L O)[i]'(by rw [sub_len]; exact hi) = subN L O O[i] := by simp [subT]
/-- A kept node: its place, its name, its properties, and where its parent comes to lie. -/
theorem SubOk.facts (h : SubOk L O) (hP : Par L) (hr : parOf L 0 = -1) (i : Nat) (hi : i < O.length) : nameOf (subT L O) i = nameOf L O[i] ∧ propsOf (subT L O) i = propsOf L O[i] ∧ (i = 0 → O[i] = 0 ∧ parOf (subT L O) i = -1) ∧
    (0 < i → 0 < O[i] ∧ parOf (subT L O) i = ((O.idxOf (parN L O[i]) : Nat) : Int) ∧ O.idxOf (parN L O[i]) < i ∧ O[O.idxOf (parN L O[i])]? = some (parN L O[i])) := by
  have hs : i < (subT L O).length := by rw [sub_len]; exact hi
  have hol := h.lt _ (List.getElem_mem hi)
  refine ⟨by rw [nameOf_at hs, sub_at i hi]; rfl, by rw [propsOf_at hs, sub_at i hi]; rfl, fun e => ?_, fun e => ?_⟩
  · subst e
    have hf := h.first
    refine ⟨hf, ?_⟩
    rw [parOf_at hs, sub_at 0 hi, hf]
    show (if (0 : Nat) = 0 then parOf L 0 else ((O.idxOf (parN L 0) : Nat) : Int)) = -1
    rw [if_pos rfl, hr]
  · have hpos : 0 < O[i] := by have := asc_ge h.asc i hi; omega
    have hmem := h.par _ (List.getElem_mem hi) hpos
    have hlt := (parN_lt hP hpos hol).1
    have hidx := asc_idx h.asc hmem (List.getElem_mem hi) hlt
    rw [idx_at (asc_nodup h.asc) i hi] at hidx
    refine ⟨hpos, ?_, hidx, ?_⟩
    · rw [parOf_at hs, sub_at i hi]
      show (if O[i] = 0 then parOf L 0 else ((O.idxOf (parN L O[i]) : Nat) : Int)) = _
      rw [if_neg (by omega)]
    · rw [List.getElem?_eq_getElem (List.idxOf_lt_length_iff.2 hmem)]
      simp
theorem SubOk.shape (h : SubOk L O) (hP : Par L) (hr : parOf L 0 = -1) : Shape (subT L O) := by
  refine ⟨by rw [sub_len]; exact h.pos, fun i h0 hi => ?_, ?_⟩
  · rw [sub_len] at hi
    obtain ⟨_, _, _, f⟩ := h.facts hP hr i hi
    obtain ⟨_, f2, f3, _⟩ := f h0
    rw [f2]; omega
  · exact ((h.facts hP hr 0 h.pos).2.2.1 rfl).2
theorem SubOk.pc (h : SubOk L O) (hP : Par L) (hr : parOf L 0 = -1) : ∀ (n i : Nat) (_ : i ≤ n) (hi : i < O.length), pc (subT L O) i = (Go.Proofs.YtjfkjnakmmkkiaaGreat.pc L O[i]).map (fun c => (c.1, O.idxOf c.2)) := by
  have hsh := h.shape hP hr
  intro n
  induction n with
  | zero =>
    intro i hn hi
    obtain rfl : i = 0 := by omega
    rw [h.first]; rfl
  | succ n ih =>
    intro i hn hi
    by_cases h0 : i = 0
    · subst h0; rw [h.first]; rfl
    · obtain ⟨f1, _, _, f⟩ := h.facts hP hr i hi
      obtain ⟨k0, hpS, hlt, hg⟩ := f (by omega)
      have hol := h.lt _ (List.getElem_mem hi)
      rw [pc_succ hsh.2.1 (by omega) (by rw [sub_len]; exact hi), pc_succ hP k0 hol, List.map_append]
      have e : parN (subT L O) i = O.idxOf (parN L O[i]) := by
        show (parOf (subT L O) i).toNat = _
        rw [hpS]; simp
      have e2 : O[O.idxOf (parN L O[i])]'(by omega) = parN L O[i] := by
        rw [List.getElem?_eq_getElem (show O.idxOf (parN L O[i]) < O.length by omega)] at hg
        exact Option.some.inj hg
      rw [e, ih _ (by omega) (by omega), e2, f1]
      simp [idx_at (asc_nodup h.asc) i hi]
theorem SubOk.dis (h : SubOk L O) (hP : Par L) (hr : parOf L 0 = -1) (hD : Dis L) : Dis (subT L O) := by
  intro x y x0 hx y0 hy hp hn
  rw [sub_len] at hx hy
  obtain ⟨n1, _, _, f⟩ := h.facts hP hr x hx
  obtain ⟨n2, _, _, g⟩ := h.facts hP hr y hy
  obtain ⟨k0, p1, _, g1⟩ := f x0
  obtain ⟨m0, p2, _, g2⟩ := g y0
  rw [p1, p2] at hp
  have e : O.idxOf (parN L O[x]) = O.idxOf (parN L O[y]) := by omega
  rw [e, g2] at g1
  have e2 : parN L O[y] = parN L O[x] := Option.some.inj g1
  have hxl := h.lt _ (List.getElem_mem hx)
  have hyl := h.lt _ (List.getElem_mem hy)
  have := hD O[x] O[y] k0 hxl m0 hyl (by rw [← (parN_lt hP k0 hxl).2, ← (parN_lt hP m0 hyl).2, e2]) (by rw [← n1, ← n2, hn])
  have i1 := idx_at (asc_nodup h.asc) x hx
  have i2 := idx_at (asc_nodup h.asc) y hy
  rw [this] at i1
  omega
theorem SubOk.ascT (h : SubOk L O) (hP : Par L) (hr : parOf L 0 = -1) (hD : Dis L) (hA : Asc L) : Asc (subT L O) := by
  intro i h0 hi
  rw [sub_len] at hi
  have hlt := (List.pairwise_iff_getElem.1 h.asc) (i - 1) i (by omega) hi (by omega)
  have ha := h.lt _ (List.getElem_mem (show i - 1 < O.length by omega))
  have hb := h.lt _ (List.getElem_mem hi)
  have hp := asc_all hA O[i] O[i - 1] hlt hb
  unfold ltI at hp ⊢
  rw [h.pc hP hr _ (i - 1) (Nat.le_refl _) (by omega), h.pc hP hr _ i (Nat.le_refl _) hi]
  refine ltP_map _ _ _ (fun r x y p' q' e1 e2 hc => ?_) hp
  obtain ⟨x0, xl, xn, xp⟩ := pc_part hP _ _ (Nat.le_refl _) ha r x p' e1
  obtain ⟨y0, yl, yn, yp⟩ := pc_part hP _ _ (Nat.le_refl _) hb r y q' e2
  rcases hc with hc | ⟨hc, hc2⟩
  · exact .inl hc
  · exfalso
    have px := parN_lt hP x0 xl
    have py := parN_lt hP y0 yl
    have e := pc_inj hP (show parN L x.2 < L.length by omega) (show parN L y.2 < L.length by omega) (xp.trans yp.symm)
    have := hD x.2 y.2 x0 xl y0 yl (by rw [← px.2, ← py.2, e]) (by rw [← xn, ← yn, hc])
    omega
theorem SubOk.dep (h : SubOk L O) (hP : Par L) (hr : parOf L 0 = -1) : ∀ (f i : Nat) (hi : i < O.length), depF (subT L O) f i = depF L f O[i] := by
  intro f
  induction f with
  | zero => intro i hi; rfl
  | succ f ih =>
    intro i hi
    unfold depF
    by_cases h0 : i = 0
    · subst h0; rw [h.first]; simp
    · obtain ⟨_, _, _, g⟩ := h.facts hP hr i hi
      obtain ⟨k0, hpS, hlt, hg⟩ := g (by omega)
      rw [if_pos (by omega), if_pos (by omega)]
      simp only [Int.toNat_natCast]
      have hol := h.lt _ (List.getElem_mem hi)
      have e2 : O[O.idxOf (parN L O[i])]'(by omega) = parN L O[i] := by
        rw [List.getElem?_eq_getElem (show O.idxOf (parN L O[i]) < O.length by omega)] at hg
        exact Option.some.inj hg
      rw [hpS, ih _ (by omega), e2, ← (parN_lt hP k0 hol).2]
theorem SubOk.valid (h : SubOk L O) (hc : checkT L = 0) : checkT (subT L O) = 0 := by
  have hp := check_parts hc
  have h0 : 0 < L.length := h.lt 0 h.zero
  have hP := par_of_named hp.2.1
  have hr := named_root hp.2.1 h0
  have hD := dis_check hc
  have hA := ((walked_iff hP hr).1 hp.2.2.1).2
  have hS := h.shape hP hr
  have hlen := h.len
  have hl2 := (limits_len hp.1).2
  have hnamed : namedT (subT L O) = true := by
    refine named_of _ 0 fun k hk => ?_
    have hkO : k < O.length := by rw [sub_len] at hk; exact hk
    obtain ⟨n1, n2, n3, n4⟩ := h.facts hP hr k hkO
    have hol := h.lt _ (List.getElem_mem hkO)
    have hat := named_at L 0 hp.2.1 O[k] hol
    rw [Nat.zero_add] at hat ⊢
    rw [nameOf_at hk, nameOf_at hol] at n1
    rw [propsOf_at hk, propsOf_at hol] at n2
    refine ⟨?_, by rw [n2]; exact hat.2⟩
    have hh := hat.1
    unfold headB at hh ⊢
    by_cases e : k = 0
    · rw [if_pos e]
      obtain ⟨z1, z2⟩ := n3 e
      rw [if_pos z1] at hh
      rw [parOf_at hk] at z2
      rw [z2, n1]
      rw [Bool.and_eq_true] at hh
      rw [hh.2]; rfl
    · obtain ⟨k0, p1, p2, _⟩ := n4 (by omega)
      rw [if_neg e]
      rw [if_neg (by omega), Bool.and_eq_true] at hh
      rw [parOf_at hk] at p1
      rw [p1, n1, hh.2]
      simp; omega
  refine check_of ⟨?_, hnamed, ?_, ?_, ?_⟩
  · unfold limitsT
    rw [Bool.and_eq_true, List.all_eq_true]
    have hpos := h.pos
    refine ⟨by rw [sub_len]; simp; omega, fun n hn => ?_⟩
    obtain ⟨k, hk, rfl⟩ := List.getElem_of_mem hn
    have hkO : k < O.length := by rw [sub_len] at hk; exact hk
    obtain ⟨_, n2, _, _⟩ := h.facts hP hr k hkO
    have hol := h.lt _ (List.getElem_mem hkO)
    rw [propsOf_at hk, propsOf_at hol] at n2
    have := hp.1
    unfold limitsT at this
    rw [Bool.and_eq_true] at this
    have := List.all_eq_true.1 this.2 _ (List.getElem_mem hol)
    unfold fitB at this ⊢
    rw [n2]; exact this
  · refine (walked_iff hS.2.1 hS.2.2).2 ⟨fun j hj => ?_, h.ascT hP hr hD hA⟩
    have hkO : j < O.length := by rw [sub_len] at hj; exact hj
    obtain ⟨_, n2, _, _⟩ := h.facts hP hr j hkO
    rw [n2]
    exact ((walked_iff hP hr).1 hp.2.2.1).1 _ (h.lt _ (List.getElem_mem hkO))
  · rw [twin_dup hnamed]
    unfold dupAny
    rw [List.any_eq_false]
    intro i hi hd
    rw [List.mem_range] at hi
    obtain ⟨c, c0, ci, hp1, hm⟩ := (dupF_iff _ i i).1 hd
    have := h.dis hP hr hD c i c0 (by omega) (by omega) hi hp1 hm
    omega
  · unfold deepT
    rw [List.any_eq_false]
    intro i hi
    rw [List.mem_range] at hi
    have hiO : i < O.length := by rw [sub_len] at hi; exact hi
    have hol := h.lt _ (List.getElem_mem hiO)
    have hdp := deep_check hc O[i] hol
    unfold depT
    rw [h.dep hP hr _ i hiO]
    have := dep_mono L O[i] O.length L.length hlen
    rw [sub_len]
    simp; omega
end
end Go.Proofs.YtjfkjnakmmkkiaaGreat

open Go
namespace Go.Proofs.YtjfkjnakmmkkiaaGreat

def remF (T : List NodeT) (a : Nat) : Nat → Nat → Bool
  | 0, i => i == a
  | f + 1, i => i == a || (decide (0 < i) && remF T a f (parN T i))
/-- Is node i a, or below it? -/
def remB (T : List NodeT) (a i : Nat) : Bool := remF T a i i
theorem remF_und {T : List NodeT} (h : Par T) {a : Nat} (ha : a < T.length) : ∀ (f i : Nat), i ≤ f → i < T.length → (remF T a f i = true ↔ Und T a i) := by
  intro f
  induction f with
  | zero =>
    intro i hi hil
    obtain rfl : i = 0 := by omega
    unfold remF
    rw [beq_iff_eq]
    constructor
    · rintro rfl; exact und_refl _ _
    · intro hu; have := und_le h ha 0 0 (Nat.le_refl _) hil hu; omega
  | succ f ih =>
    intro i hi hil
    unfold remF
    rw [Bool.or_eq_true, beq_iff_eq, Bool.and_eq_true, decide_eq_true_iff]
    by_cases h0 : i = 0
    · subst h0
      constructor
      · rintro (rfl | ⟨h1, _⟩)
        · exact und_refl _ _
        · omega
      · intro hu; have := und_le h ha 0 0 (Nat.le_refl _) hil hu; left; omega
    · have hp := parN_lt h (by omega) hil
      rw [ih _ (by omega) (by omega), und_step h ha (by omega) hil]
      constructor
      · rintro (e | ⟨_, e⟩)
        · exact .inl e.symm
        · exact .inr e
      · rintro (e | e)
        · exact .inl e.symm
        · exact .inr ⟨by omega, e⟩
theorem remB_und {T : List NodeT} (h : Par T) {a i : Nat} (ha : a < T.length) (hi : i < T.length) : remB T a i = true ↔ Und T a i := remF_und h ha i i (Nat.le_refl _) hi
theorem remB_step {T : List NodeT} (h : Par T) {a i : Nat} (ha : a < T.length) (hi : i < T.length) : remB T a i = (i == a || (decide (0 < i) && remB T a (parN T i))) := by
  by_cases h0 : i = 0
  · subst h0; simp [remB, remF]
  · have hp := parN_lt h (by omega) hi
    have e : ∀ (x y : Bool), (x = true ↔ y = true) → x = y := by decide
    apply e
    rw [remB_und h ha hi, und_step h ha (by omega) hi, Bool.or_eq_true, beq_iff_eq, Bool.and_eq_true, decide_eq_true_iff, remB_und h ha (by omega)]
    constructor
    · rintro (e | e)
      · exact .inl e.symm
      · exact .inr ⟨by omega, e⟩
    · rintro (e | ⟨_, e⟩)
      · exact .inl e.symm
      · exact .inr e
def keepO (T : List NodeT) (a k : Nat) : List Nat := (List.range k).filter fun i => !remB T a i
def plcT (T : List NodeT) (a i : Nat) : Int := if remB T a i = true then -1 else ((keepO T a i).length : Int)
def keepNode (T : List NodeT) (a i : Nat) : NodeT := ⟨if i = 0 then parOf T 0 else plcT T a (parN T i), nameOf T i, propsOf T i⟩
def keepN (T : List NodeT) (a k : Nat) : List NodeT := (keepO T a k).map (keepNode T a)
theorem keepO_yes {T : List NodeT} {a k : Nat} (h : remB T a k = false) : keepO T a (k + 1) = keepO T a k ++ [k] := by
  unfold keepO; rw [List.range_succ, List.filter_append]; simp [h]
theorem keepO_no {T : List NodeT} {a k : Nat} (h : remB T a k = true) : keepO T a (k + 1) = keepO T a k := by
  unfold keepO; rw [List.range_succ, List.filter_append]; simp [h]
theorem keepO_len (T : List NodeT) (a k : Nat) : (keepO T a k).length ≤ k := by
  unfold keepO; exact Nat.le_trans (List.length_filter_le _ _) (by simp)
theorem keepO_mem {T : List NodeT} {a k i : Nat} : i ∈ keepO T a k ↔ i < k ∧ remB T a i = false := by
  unfold keepO; simp
theorem keepO_asc (T : List NodeT) (a k : Nat) : (keepO T a k).Pairwise (· < ·) := by
  unfold keepO; exact List.Pairwise.filter _ List.pairwise_lt_range
theorem keepO_idx {T : List NodeT} {a j : Nat} (h : remB T a j = false) : ∀ k, j < k → (keepO T a k).idxOf j = (keepO T a j).length := by
  intro k
  induction k with
  | zero => intro h; omega
  | succ k ih =>
    intro hj
    by_cases e : j = k
    · subst e
      rw [keepO_yes h, List.idxOf_append, if_neg (by rw [keepO_mem]; omega)]
      simp
    · cases hk : remB T a k with
      | true => rw [keepO_no hk]; exact ih (by omega)
      | false =>
        rw [keepO_yes hk, List.idxOf_append, if_pos (keepO_mem.2 ⟨by omega, h⟩)]
        exact ih (by omega)
theorem keep_subok {T : List NodeT} (hP : Par T) {a : Nat} (ha : a < T.length) (a0 : a ≠ 0) : SubOk T (keepO T a T.length) := by
  have hz : remB T a 0 = false := by
    cases e : remB T a 0 with
    | false => rfl
    | true => have := und_le hP ha 0 0 (Nat.le_refl _) (by omega) ((remB_und hP ha (by omega)).1 e); omega
  refine ⟨keepO_asc _ _ _, fun k hk => (keepO_mem.1 hk).1, keepO_mem.2 ⟨by omega, hz⟩, fun k hk h0 => ?_⟩
  obtain ⟨h1, h2⟩ := keepO_mem.1 hk
  have hp := parN_lt hP h0 h1
  refine keepO_mem.2 ⟨by omega, ?_⟩
  rw [remB_step hP ha h1] at h2
  cases e : remB T a (parN T k) with
  | false => rfl
  | true => rw [e] at h2; simp [h0] at h2
theorem keep_sub {T : List NodeT} (hP : Par T) {a : Nat} (ha : a < T.length) (a0 : a ≠ 0) : keepN T a T.length = subT T (keepO T a T.length) := by
  have hs := keep_subok hP ha a0
  unfold keepN subT
  apply List.map_congr_left
  intro i hi
  unfold keepNode subN
  by_cases h0 : i = 0
  · rw [if_pos h0, if_pos h0]
  · rw [if_neg h0, if_neg h0]
    have hm := keepO_mem.1 (hs.par i hi (by omega))
    unfold plcT
    rw [if_neg (by rw [hm.2]; decide), keepO_idx hm.2 _ hm.1]
/-- What Remove returns. -/
def removeT (T : List NodeT) (s : ByteArray) : List NodeT × Int :=
  if (rBeginT T s).2 ≠ 0 then ([], (rBeginT T s).2) else if (rBeginT T s).1 = 0 then ([], 1) else (subT T (keepO T (rBeginT T s).1.toNat T.length), 0)
theorem remove_ok {T : List NodeT} {s : ByteArray} {k : Nat} (hb : rBeginT T s = ((k : Int), 0)) : removeT T s = if k = 0 then ([], 1) else (subT T (keepO T k T.length), 0) := by
  unfold removeT; rw [hb, if_neg (by simp)]
  by_cases h : k = 0
  · subst h; rfl
  · rw [if_neg (by simpa using h), if_neg h]; rfl
def plArr (T : List NodeT) (a k : Nat) : Array Value := ((List.range T.length).map fun i => Value.int .i64 (if i < k then plcT T a i else 0)).toArray
theorem plArr_at (T : List NodeT) (a k i : Nat) (h : i < T.length) : (plArr T a k)[i]? = some (.int .i64 (if i < k then plcT T a i else 0)) := by unfold plArr; simp [h]
theorem plArr_zero (T : List NodeT) (a : Nat) : plArr T a 0 = Array.replicate T.length (.int .i64 0) := by
  unfold plArr
  apply Array.ext
  · simp
  · intro i h1 h2; simp
theorem plArr_set (T : List NodeT) (a k : Nat) (_ : k < T.length) : (plArr T a k).setIfInBounds k (.int .i64 (plcT T a k)) = plArr T a (k + 1) := by
  unfold plArr
  apply Array.ext
  · simp
  · intro i h1 h2
    simp at h1
    rw [Array.getElem_setIfInBounds (by simpa using h1)]
    by_cases e : k = i
    · subst e; simp
    · have : (i < k) = (i < k + 1) := by apply propext; omega
      simp [e, this]
end Go.Proofs.YtjfkjnakmmkkiaaGreat

open Go
namespace Go.Proofs.YtjfkjnakmmkkiaaGreat

theorem noSlash {l : List UInt8} (h : nameT l = true) : ∀ x ∈ l, x ≠ 47 := by
  intro x hx e
  subst e
  unfold nameT at h
  simp only [Bool.and_eq_true] at h
  have := List.all_eq_true.1 h.2 _ hx
  revert this; decide
def flatN (ns : List (List UInt8)) : List UInt8 := ns.flatMap fun n => 47 :: n
def Tail47 (t : List UInt8) : Prop := t = [] ∨ ∃ u, t = 47 :: u
theorem tail_flat (ns : List (List UInt8)) : Tail47 (flatN ns) := by
  cases ns with
  | nil => exact .inl rfl
  | cons n ns => exact .inr ⟨n ++ flatN ns, rfl⟩
theorem no47_split : ∀ (n m t u : List UInt8), (∀ x ∈ n, x ≠ 47) → (∀ x ∈ m, x ≠ 47) → Tail47 t → Tail47 u → n ++ t = m ++ u → n = m ∧ t = u
  | [], [], t, u, _, _, _, _, h => ⟨rfl, h⟩
  | [], y :: m, t, u, _, hm, ht, _, h => by
    rcases ht with rfl | ⟨t', rfl⟩
    · cases h
    · injection h with h1 _
      exact absurd h1.symm (hm y (List.mem_cons_self ..))
  | x :: n, [], t, u, hn, _, _, hu, h => by
    rcases hu with rfl | ⟨u', rfl⟩
    · cases h
    · injection h with h1 _
      exact absurd h1 (hn x (List.mem_cons_self ..))
  | x :: n, y :: m, t, u, hn, hm, ht, hu, h => by
    injection h with h1 h2
    obtain ⟨e1, e2⟩ := no47_split n m t u (fun z hz => hn z (List.mem_cons_of_mem _ hz)) (fun z hz => hm z (List.mem_cons_of_mem _ hz)) ht hu h2
    exact ⟨by rw [h1, e1], e2⟩
def NoS (ns : List (List UInt8)) : Prop := ∀ n ∈ ns, ∀ x ∈ n, x ≠ 47
theorem flat_prefix : ∀ (ns ms : List (List UInt8)) (r : List UInt8), NoS ns → NoS ms → Tail47 r → flatN ns ++ r = flatN ms → ∃ rest, ms = ns ++ rest ∧ r = flatN rest
  | [], ms, r, _, _, _, h => ⟨ms, rfl, h⟩
  | n :: ns, [], r, _, _, _, h => by cases h
  | n :: ns, m :: ms, r, hn, hm, hr, h => by
    have h' : n ++ (flatN ns ++ r) = m ++ flatN ms := by
      have : 47 :: (n ++ flatN ns) ++ r = 47 :: (m ++ flatN ms) := h
      simpa using this
    have ht : Tail47 (flatN ns ++ r) := by
      rcases tail_flat ns with e | ⟨u, e⟩
      · rw [e]; exact hr
      · rw [e]; exact .inr ⟨u ++ r, rfl⟩
    obtain ⟨e1, e2⟩ := no47_split n m _ _ (hn n (List.mem_cons_self ..)) (hm m (List.mem_cons_self ..)) ht (tail_flat ms) h'
    obtain ⟨rest, e3, e4⟩ := flat_prefix ns ms r (fun z hz => hn z (List.mem_cons_of_mem _ hz)) (fun z hz => hm z (List.mem_cons_of_mem _ hz)) hr e2
    exact ⟨rest, by rw [e1, e3]; rfl, e4⟩
def namesL (T : List NodeT) (i : Nat) : List (List UInt8) := (pc T i).map fun c => c.1.data.toList
theorem flat_names (T : List NodeT) (i : Nat) : flatP (pc T i) = flatN (namesL T i) := by
  unfold flatP flatN namesL segT
  rw [List.flatMap_map]
theorem names_zero (T : List NodeT) : namesL T 0 = [] := rfl
theorem names_succ {T : List NodeT} (h : Par T) {i : Nat} (h0 : 0 < i) (hi : i < T.length) : namesL T i = namesL T (parN T i) ++ [(nameOf T i).data.toList] := by
  unfold namesL; rw [pc_succ h h0 hi, List.map_append]; rfl
theorem names_noS {T : List NodeT} (h : namedT T = true) : ∀ (n i : Nat), i ≤ n → i < T.length → NoS (namesL T i) := by
  have hP := par_of_named h
  intro n
  induction n with
  | zero => intro i hi _; obtain rfl : i = 0 := by omega
            intro n hn; cases hn
  | succ n ih =>
    intro i hi hil
    by_cases h0 : i = 0
    · subst h0; intro n hn; cases hn
    · have hp := parN_lt hP (by omega) hil
      rw [names_succ hP (by omega) hil]
      intro m hm
      rcases List.mem_append.1 hm with hm | hm
      · exact ih _ (by omega) (by omega) m hm
      · simp at hm
        subst hm
        have := (named_at T 0 h i hil).1
        rw [Nat.zero_add] at this
        unfold headB at this
        rw [if_neg h0, Bool.and_eq_true] at this
        rw [nameOf_at hil]
        exact noSlash this.2
theorem names_inj {T : List NodeT} (h : Par T) (hD : Dis T) : ∀ (n i j : Nat), i ≤ n → i < T.length → j < T.length → namesL T i = namesL T j → i = j := by
  intro n
  induction n with
  | zero =>
    intro i j hi _ hj e
    obtain rfl : i = 0 := by omega
    rcases Nat.eq_zero_or_pos j with rfl | h0
    · rfl
    · rw [names_zero, names_succ h h0 hj] at e
      simp at e
  | succ n ih =>
    intro i j hi hil hjl e
    rcases Nat.eq_zero_or_pos i with rfl | hi0
    · rcases Nat.eq_zero_or_pos j with rfl | h0
      · rfl
      · rw [names_zero, names_succ h h0 hjl] at e
        simp at e
    · rcases Nat.eq_zero_or_pos j with rfl | hj0
      · rw [names_zero, names_succ h hi0 hil] at e
        simp at e
      · have pi := parN_lt h hi0 hil
        have pj := parN_lt h hj0 hjl
        rw [names_succ h hi0 hil, names_succ h hj0 hjl] at e
        obtain ⟨e1, e2⟩ := List.append_inj' e rfl
        have e3 := ih _ _ (by omega) (by omega) (by omega) e1
        have e4 : nameOf T i = nameOf T j := by
          simp at e2
          exact ByteArray.ext e2
        exact hD i j hi0 hil hj0 hjl (by rw [← pi.2, ← pj.2, e3]) e4
theorem names_und {T : List NodeT} (h : Par T) (hD : Dis T) {k : Nat} (hk : k < T.length) : ∀ (n i : Nat), i ≤ n → i < T.length → namesL T k <+: namesL T i → Und T k i := by
  intro n
  induction n with
  | zero =>
    intro i hi hil hp
    obtain rfl : i = 0 := by omega
    rw [names_zero] at hp
    have := names_inj h hD k k 0 (Nat.le_refl _) hk hil (by rw [List.prefix_nil.1 hp]; rfl)
    subst this; exact und_refl _ _
  | succ n ih =>
    intro i hi hil hp
    by_cases e : namesL T k = namesL T i
    · have := names_inj h hD k k i (Nat.le_refl _) hk hil e
      subst this; exact und_refl _ _
    · have i0 : 0 < i := by
        rcases Nat.eq_zero_or_pos i with rfl | h0
        · rw [names_zero] at hp e; exact absurd (List.prefix_nil.1 hp) e
        · exact h0
      have pi := parN_lt h i0 hil
      rw [names_succ h i0 hil] at hp e
      rcases List.prefix_concat_iff.1 hp with hp | hp
      · exact absurd hp e
      · exact und_trans (ih _ (by omega) (by omega) hp) (und_par h i0 hil)
theorem und_names {T : List NodeT} {k i : Nat} (h : Und T k i) : namesL T k <+: namesL T i := by
  unfold namesL
  obtain ⟨q, hq⟩ := h
  exact ⟨q.map fun c => c.1.data.toList, by rw [← hq, List.map_append]⟩
def pathL (T : List NodeT) (i : Nat) : List UInt8 := if i = 0 then [47] else flatN (namesL T i)
theorem pathS_list (T : List NodeT) (i : Nat) : (pathS T i).data.toList = pathL T i := by
  unfold pathS pathL
  split
  · rfl
  · rw [flat_names]
theorem names_pos {T : List NodeT} (h : Par T) {i : Nat} (h0 : 0 < i) (hi : i < T.length) : namesL T i ≠ [] := by rw [names_succ h h0 hi]; simp
theorem flat_one {ns : List (List UInt8)} (h : NoS ns) (hn : ∀ n ∈ ns, n ≠ []) (e : flatN ns = [47]) : False := by
  cases ns with
  | nil => cases e
  | cons n ns =>
    have : 47 :: (n ++ flatN ns) = [47] := e
    injection this with _ h2
    have := List.append_eq_nil_iff.1 h2
    exact hn n (List.mem_cons_self ..) this.1
theorem names_full {T : List NodeT} (h : namedT T = true) : ∀ (n i : Nat), i ≤ n → i < T.length → ∀ m ∈ namesL T i, m ≠ [] := by
  have hP := par_of_named h
  intro n
  induction n with
  | zero => intro i hi _; obtain rfl : i = 0 := by omega
            intro n hn; cases hn
  | succ n ih =>
    intro i hi hil
    by_cases h0 : i = 0
    · subst h0; intro n hn; cases hn
    · have hp := parN_lt hP (by omega) hil
      rw [names_succ hP (by omega) hil]
      intro m hm
      rcases List.mem_append.1 hm with hm | hm
      · exact ih _ (by omega) (by omega) m hm
      · simp at hm
        subst hm
        have := (named_at T 0 h i hil).1
        rw [Nat.zero_add] at this
        unfold headB at this
        rw [if_neg h0, Bool.and_eq_true] at this
        rw [nameOf_at hil]
        have h2 := this.2
        unfold nameT at h2
        simp only [Bool.and_eq_true, decide_eq_true_eq] at h2
        intro e
        rw [e] at h2
        simp at h2
theorem path_inj {T : List NodeT} (h : namedT T = true) (hD : Dis T) {i j : Nat} (hi : i < T.length) (hj : j < T.length) (e : pathL T i = pathL T j) : i = j := by
  have hP := par_of_named h
  unfold pathL at e
  by_cases i0 : i = 0
  · by_cases j0 : j = 0
    · rw [i0, j0]
    · rw [if_pos i0, if_neg j0] at e
      exact (flat_one (names_noS h j j (Nat.le_refl _) hj) (names_full h j j (Nat.le_refl _) hj) e.symm).elim
  · by_cases j0 : j = 0
    · rw [if_neg i0, if_pos j0] at e
      exact (flat_one (names_noS h i i (Nat.le_refl _) hi) (names_full h i i (Nat.le_refl _) hi) e).elim
    · rw [if_neg i0, if_neg j0] at e
      obtain ⟨rest, e1, e2⟩ := flat_prefix _ _ [] (names_noS h i i (Nat.le_refl _) hi) (names_noS h j j (Nat.le_refl _) hj) (.inl rfl) (by rw [List.append_nil]; exact e)
      have : rest = [] := by
        cases rest with
        | nil => rfl
        | cons r rest => cases e2
      subst this
      rw [List.append_nil] at e1
      exact names_inj hP hD i i j (Nat.le_refl _) hi hj e1.symm
/-- A node that is removed, but for the first one: its path goes on behind that one's with a '/'. -/
theorem path_below {T : List NodeT} (h : namedT T = true) {k i : Nat} (hk : k < T.length) (hi : i < T.length) (k0 : k ≠ 0) (hik : i ≠ k) (hr : remB T k i = true) : ∃ u, pathL T i = pathL T k ++ 47 :: u := by
  have hP := par_of_named h
  have hu := (remB_und hP hk hi).1 hr
  have i0 : i ≠ 0 := by
    intro e; subst e
    have := und_le hP hk 0 0 (Nat.le_refl _) hi hu; omega
  obtain ⟨q, hq⟩ := hu
  have hqn : q ≠ [] := by
    intro e; subst e
    rw [List.append_nil] at hq
    exact hik (pc_inj hP hi hk hq.symm)
  unfold pathL
  rw [if_neg i0, if_neg k0]
  have e : namesL T i = namesL T k ++ q.map (fun c => c.1.data.toList) := by unfold namesL; rw [← hq, List.map_append]
  cases q with
  | nil => exact absurd rfl hqn
  | cons c q =>
    refine ⟨c.1.data.toList ++ flatN (q.map fun c => c.1.data.toList), ?_⟩
    rw [e]
    unfold flatN
    rw [List.flatMap_append]
    rfl
theorem path_apart {T : List NodeT} (h : namedT T = true) (hD : Dis T) {k i : Nat} (hk : k < T.length) (hi : i < T.length) (k0 : k ≠ 0) (hr : remB T k i = false) (u : List UInt8) : pathL T i ≠ pathL T k ++ 47 :: u := by
  have hP := par_of_named h
  intro e
  have hf : remB T k i = true := by
    refine (remB_und hP hk hi).2 (names_und hP hD hk i i (Nat.le_refl _) hi ?_)
    unfold pathL at e
    rw [if_neg k0] at e
    by_cases i0 : i = 0
    · rw [if_pos i0] at e
      have hne := names_pos hP (show 0 < k by omega) hk
      cases hn : namesL T k with
      | nil => exact absurd hn hne
      | cons n ns =>
        rw [hn] at e
        have : [47] = 47 :: ((n ++ flatN ns) ++ 47 :: u) := e
        injection this with _ h2
        have := List.append_eq_nil_iff.1 h2.symm
        cases this.2
    · rw [if_neg i0] at e
      obtain ⟨rest, e1, _⟩ := flat_prefix _ _ (47 :: u) (names_noS h k k (Nat.le_refl _) hk) (names_noS h i i (Nat.le_refl _) hi) (.inr ⟨u, rfl⟩) e.symm
      exact ⟨rest, e1.symm⟩
  rw [hf] at hr; cases hr
theorem path_other {T : List NodeT} (h : namedT T = true) (hD : Dis T) {k i : Nat} (hk : k < T.length) (hi : i < T.length) (hr : remB T k i = false) : pathL T i ≠ pathL T k := by
  intro e
  have := path_inj h hD hi hk e
  subst this
  rw [remB_step (par_of_named h) hk hk] at hr
  simp at hr
theorem sub_path {T : List NodeT} {O : List Nat} (hO : SubOk T O) (hP : Par T) (hr : parOf T 0 = -1) (j : Nat) (hj : j < O.length) : pathL (subT T O) j = pathL T O[j] := by
  have hn : namesL (subT T O) j = namesL T O[j] := by
    unfold namesL
    rw [hO.pc hP hr j j (Nat.le_refl _) hj, List.map_map]; rfl
  have hz : j = 0 ↔ O[j] = 0 := by
    constructor
    · rintro rfl; exact hO.first
    · intro e; have := asc_ge hO.asc j hj; omega
  unfold pathL
  rw [hn]
  by_cases e : j = 0
  · rw [if_pos e, if_pos (hz.1 e)]
  · rw [if_neg e, if_neg (fun x => e (hz.2 x))]
theorem eqS_path {T U : List NodeT} {i j : Nat} : eqS (pathS T i) (pathS U j) = true ↔ pathL T i = pathL U j := by
  rw [eqS_iff, ← pathS_list, ← pathS_list]
  constructor
  · intro e; rw [e]
  · intro e; exact ByteArray.ext (Array.toList_inj.1 e)
/-- Where a node's path is found behind Remove. -/
theorem find_kept {T : List NodeT} (hc : checkT T = 0) {k i : Nat} (hk : k < T.length) (k0 : k ≠ 0) (hi : i < T.length) (hr : remB T k i = false) :
    rFindT (subT T (keepO T k T.length)) (pathS T i) = (((keepO T k i).length : Int), true) ∧ ∃ hj : (keepO T k i).length < (keepO T k T.length).length, (keepO T k T.length)[(keepO T k i).length] = i := by
  have hp := check_parts hc
  have hP := par_of_named hp.2.1
  have hro := named_root hp.2.1 (show 0 < T.length by omega)
  have hD := dis_check hc
  have hO := keep_subok hP hk k0
  have hm := keepO_mem.2 ⟨hi, hr⟩
  have hidx := keepO_idx hr T.length hi
  have hj : (keepO T k i).length < (keepO T k T.length).length := by rw [← hidx]; exact List.idxOf_lt_length_iff.2 hm
  have hat : (keepO T k T.length)[(keepO T k i).length] = i := by
    have : (keepO T k T.length)[(keepO T k T.length).idxOf i]'(List.idxOf_lt_length_iff.2 hm) = i := by simp
    simpa [hidx] using this
  refine ⟨?_, hj, hat⟩
  unfold rFindT
  rw [if_neg (by rw [hO.valid hc]; simp)]
  refine foundT_yes (findT_yes (by rw [sub_len]; exact hj) (eqS_path.2 (by rw [sub_path hO hP hro _ hj, hat])) fun q hq => ?_)
  cases e : eqS (pathS (subT T (keepO T k T.length)) q) (pathS T i) with
  | false => rfl
  | true =>
    have e2 := eqS_path.1 e
    rw [sub_path hO hP hro q (by omega)] at e2
    have := path_inj hp.2.1 hD (hO.lt _ (List.getElem_mem (show q < (keepO T k T.length).length by omega))) hi e2
    have h2 := idx_at (asc_nodup hO.asc) q (by omega)
    rw [this, hidx] at h2
    omega
theorem find_gone {T : List NodeT} (hc : checkT T = 0) {k i : Nat} (hk : k < T.length) (k0 : k ≠ 0) (hi : i < T.length) (hr : remB T k i = true) :
    rFindT (subT T (keepO T k T.length)) (pathS T i) = (0, false) := by
  have hp := check_parts hc
  have hP := par_of_named hp.2.1
  have hro := named_root hp.2.1 (show 0 < T.length by omega)
  have hD := dis_check hc
  have hO := keep_subok hP hk k0
  unfold rFindT
  rw [if_neg (by rw [hO.valid hc]; simp)]
  refine foundT_no (findT_no fun q hq => ?_)
  rw [sub_len] at hq
  cases e : eqS (pathS (subT T (keepO T k T.length)) q) (pathS T i) with
  | false => rfl
  | true =>
    have e2 := eqS_path.1 e
    rw [sub_path hO hP hro q hq] at e2
    have hm := List.getElem_mem hq
    have := path_inj hp.2.1 hD (hO.lt _ hm) hi e2
    rw [this] at hm
    rw [(keepO_mem.1 hm).2] at hr; cases hr
theorem keep_node {T : List NodeT} (hc : checkT T = 0) {k i : Nat} (hk : k < T.length) (k0 : k ≠ 0) (hi : i < T.length) (hr : remB T k i = false) :
    ∃ hj : (keepO T k i).length < (subT T (keepO T k T.length)).length, (subT T (keepO T k T.length))[(keepO T k i).length].name = T[i].name ∧ (subT T (keepO T k T.length))[(keepO T k i).length].props = T[i].props := by
  obtain ⟨_, hj, hat⟩ := find_kept hc hk k0 hi hr
  refine ⟨by rw [sub_len]; exact hj, ?_⟩
  rw [sub_at _ hj, hat]
  exact ⟨nameOf_at hi, propsOf_at hi⟩
end Go.Proofs.YtjfkjnakmmkkiaaGreat
