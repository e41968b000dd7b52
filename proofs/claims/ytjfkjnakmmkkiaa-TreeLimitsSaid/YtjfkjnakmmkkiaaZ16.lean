/- Contracts of package tree: region 2 of changed (printed by gchg.py). | Contracts of package tree: changed, and the closure of Set. | Contracts of package tree: the region of Set that looks a property up (printed by gtse.py). | Contracts of package tree: Set. -/
import Derived.Test.YtjfkjnakmmkkiaaZ14
import Derived.Test.YtjfkjnakmmkkiaaZ15
import Derived.Test.YtjfkjnakmmkkiaaZ1
import Derived.Test.YtjfkjnakmmkkiaaZ7

namespace Go.Proofs.Ytjfkjnakmmkkiaa
open Go.RowKit

noncomputable def chgOps (n : Nat) : Array Oper := (regOps (Try.f67.body.getD .skip) n).getD #[]
theorem chg2 : inRow2 .any (chgOps 2) = true := by kernel_rfl
theorem chg2a : apartB (chgOps 2) = true := by kernel_rfl
theorem chg2n : (chgOps 2).size = 14 := by kernel_rfl
def ChgS (Z gT n cap : Nat) (pv : Value) (W w : World) : Prop := Holds w Z #[.slice (some ⟨gT, 0, none⟩) n cap] 27 ∧ Keeps (fun b => pv.ownBlock = some b ∨ b = gT) W w
def ChgX (pv : Value) (W : World) (l : Array Bool) (w : World) : Prop :=
  (l.getD 10 false = false → Keeps (fun _ => False) W w) ∧ (l.getD 13 false = false → Keeps (fun b => pv.ownBlock = some b) W w)
theorem ChgX.keep {pv : Value} {W w w' : World} {l : Array Bool} (h : ChgX pv W l w) (i : Nat) (h1 : Keeps (fun _ => False) W w → Keeps (fun _ => False) W w') (h2 : Keeps (fun b => pv.ownBlock = some b) W w → Keeps (fun b => pv.ownBlock = some b) W w') : ChgX pv W (l.setIfInBounds i true) w' :=
  ⟨fun e => h1 (h.1 (listed_set e)), fun e => h2 (h.2 (listed_set e))⟩
def ChgF (base Z gT n cap at_ fn : Nat) (caps : Array Value) (pv : Value) (ps2 : List PropT) (T2 : List NodeT) (j : Nat) : Value → World → Prop := match j with
  | 0 => fun u _ => u = .pointer (some ⟨Z, 0, none⟩)
  | 1 => fun u _ => u = .slice (some ⟨gT, 0, none⟩) n cap
  | 2 => fun u _ => u = .int .i64 at_
  | 3 => fun u _ => u = .func (.func fn) #[] caps
  | 4 => fun u _ => u = .pointer (some ⟨Z, 0, none⟩)
  | 5 => fun u _ => u = .slice (some ⟨gT, 0, none⟩) n cap
  | 6 => fun u _ => u = .int .i64 at_
  | 7 => fun u _ => u = .pointer (some ⟨gT, at_ * 3, none⟩)
  | 8 => fun u _ => u = .pointer (some ⟨gT, at_ * 3 + 2, none⟩)
  | 9 => fun u _ => u = pv
  | 10 => fun u w => PropRow w base u ps2
  | 11 => fun u _ => u = .pointer (some ⟨gT, at_ * 3, none⟩)
  | 12 => fun u _ => u = .pointer (some ⟨gT, at_ * 3 + 2, none⟩)
  | 13 => fun _ w => TreeRow w base (.slice (some ⟨gT, 0, none⟩) n cap) T2
  | _ => fun _ _ => True
section
variable {base Z gT n cap at_ fn : Nat} {caps : Array Value} {pv : Value} {ps2 : List PropT} {T2 : List NodeT}
theorem ChgS.call {W w w' : World} (h : ChgS Z gT n cap pv W w) (hZ : pv.ownBlock ≠ some Z) (k : Keeps (fun b => pv.ownBlock = some b) w w') : ChgS Z gT n cap pv W w' := ⟨h.1.keeps k hZ, h.2.trans k (fun _ _ e => Or.inl e)⟩
theorem ChgS.put {W w : World} (h : ChgS Z gT n cap pv W w) (hZ : Z ≠ gT) (v : Value) : ChgS Z gT n cap pv W (w.setCell ⟨gT, at_ * 3 + 2, none⟩ v) :=
  ⟨h.1.other _ _ hZ, h.2.trans ((Keeps.refl (fun b => pv.ownBlock = some b ∨ b = gT) w).setCell (p := ⟨gT, at_ * 3 + 2, none⟩) (Or.inr (Or.inr rfl)) v) (fun _ _ e => e)⟩
theorem ChgF.call {w w' : World} {j : Nat} {u : Value} (h : ChgF base Z gT n cap at_ fn caps pv ps2 T2 j u w) (h10 : j ≠ 10) (h13 : j ≠ 13) : ChgF base Z gT n cap at_ fn caps pv ps2 T2 j u w' := by
  unfold ChgF at *
  split at h
  all_goals first
    | exact absurd rfl h10
    | exact absurd rfl h13
    | exact h
theorem ChgF.put {w w' : World} {j : Nat} {u : Value} (h : ChgF base Z gT n cap at_ fn caps pv ps2 T2 j u w) (h13 : j ≠ 13) (h10 : j ≠ 10) : ChgF base Z gT n cap at_ fn caps pv ps2 T2 j u w' := h.call h10 h13
end

set_option maxHeartbeats 4000000 in
set_option maxRecDepth 100000 in
theorem chg_region2 {Q : Exit → Act → World → Prop} (base Z gT n cap at_ fn : Nat) (caps : Array Value) (pv : Value) (ps2 : List PropT) (T2 : List NodeT) (W w : World) (A : Act) (hsz : A.tmps.size = 29) (hat : at_ < n) (hZp : pv.ownBlock ≠ some Z) (hZg : Z ≠ gT) (hpg : pv.ownBlock ≠ some gT) (hnd : ∃ cs, Holds W gT cs 42)
    (a1 : A.tmps.getD 1 undef = .int .i64 at_) (a2 : A.tmps.getD 2 undef = .func (.func fn) #[] caps) (a7 : A.tmps.getD 7 undef = .pointer (some ⟨Z, 0, none⟩))
    (hcell : ∀ wx, Keeps (fun b => pv.ownBlock = some b) W wx → wx.cell? ⟨gT, at_ * 3 + 2, none⟩ = some pv ∧ wx.frozen? ⟨gT, at_ * 3 + 2, none⟩ = false)
    (heg : ∀ args w, (callFunc fn args).run Try.prog w = .ok (.enter fn args) w) (hcl : Hid (∀ wx, Keeps (fun _ => False) W wx → Calls Try.prog fn (#[pv] ++ caps) wx fun e w' => ∃ rv, e = .returned rv ∧ PropRow w' base rv ps2 ∧ Keeps (fun b => pv.ownBlock = some b) wx w'))
    (hput : ∀ wx rv, PropRow wx base rv ps2 → Keeps (fun b => pv.ownBlock = some b) W wx → TreeRow (wx.setCell ⟨gT, at_ * 3 + 2, none⟩ rv) base (.slice (some ⟨gT, 0, none⟩) n cap) T2)
    (hS : ChgS Z gT n cap pv W w) (hX : Keeps (fun _ => False) W w)
    (hQ : ∀ c w', SameBut (chgOps 2) A c → ChgS Z gT n cap pv W w' → TreeRow w' base (.slice (some ⟨gT, 0, none⟩) n cap) T2 → Q .normal c w') :
    wpAny Try.prog .any (chgOps 2) Q (chgOps 2).size (Array.replicate (chgOps 2).size false) A w := by
  refine wpAny_inv2 (fun l c wx => RInv (chgOps 2) A (ChgF base Z gT n cap at_ fn caps pv ps2 T2) (ChgS Z gT n cap pv W) l c wx ∧ ChgX pv W l wx) chg2 ?hend ?hstep _ _ _ _ (by simp) (by simp) ⟨RInv.start hS, fun _ => hX, fun _ => hX.mono (fun _ _ e => e.elim)⟩
  case hend =>
    intro l c wx hI hl
    have h1 : TreeRow wx base (.slice (some ⟨gT, 0, none⟩) n cap) T2 := hI.1.2.2.2 13 (by rw [chg2n]; decide) (hl 13 (by rw [chg2n]; decide))
    exact hQ c wx hI.1.1 hI.1.2.1 h1
  clear hX
  intro l c wx hI i' op ho hl hall K' hK'
  have hi13 : i' < 14 := by rw [← chg2n]; exact (Array.getElem?_eq_some_iff.1 ho).1
  simp only [chgOps, regOps, Try.f67, Option.getD_some, reduceIte, Nat.reduceEqDiff] at ho
  have hS := hI.1.2.1
  have hii : (at_ : Int) < n := by omega
  have hii0 : (0 : Int) ≤ at_ := by omega
  have s1 := (hI.1.slot 1 (by kernel_rfl)).trans a1
  have s2 := (hI.1.slot 2 (by kernel_rfl)).trans a2
  have s7 := (hI.1.slot 7 (by kernel_rfl)).trans a7
  simp only [Array.getD_eq_getD_getElem?] at s1 s2 s7
  have hic : i' = 0 ∨ i' = 1 ∨ i' = 2 ∨ i' = 3 ∨ i' = 4 ∨ i' = 5 ∨ i' = 6 ∨ i' = 7 ∨ i' = 8 ∨ i' = 9 ∨ i' = 10 ∨ i' = 11 ∨ i' = 12 ∨ i' = 13 := by omega
  rcases hic with rfl | rfl | rfl | rfl | rfl | rfl | rfl | rfl | rfl | rfl | rfl | rfl | rfl | rfl
  all_goals cases ho
  · go_simp
    exact hK' _ _ ⟨hI.1.stepL chg2a 0 15 rfl (by rw [hsz]; decide) _ _ rfl hall hS (fun _ _ _ h => h) rfl, hI.2.keep 0 (fun h => h) (fun h => h)⟩
  · have e0 : c.tmps.getD 15 undef = .pointer (some ⟨Z, 0, none⟩) := hI.1.fact 0 15 rfl (listed hall 0 (by kernel_rfl))
    simp only [Array.getD_eq_getD_getElem?] at e0
    have hX := hS.1.cell 0
    go_simp
    exact hK' _ _ ⟨hI.1.stepL chg2a 1 16 rfl (by rw [hsz]; decide) _ _ rfl hall hS (fun _ _ _ h => h) rfl, hI.2.keep 1 (fun h => h) (fun h => h)⟩
  · go_simp
    exact hK' _ _ ⟨hI.1.stepL chg2a 2 17 rfl (by rw [hsz]; decide) _ _ rfl hall hS (fun _ _ _ h => h) rfl, hI.2.keep 2 (fun h => h) (fun h => h)⟩
  · go_simp
    exact hK' _ _ ⟨hI.1.stepL chg2a 3 18 rfl (by rw [hsz]; decide) _ _ rfl hall hS (fun _ _ _ h => h) rfl, hI.2.keep 3 (fun h => h) (fun h => h)⟩
  · go_simp
    exact hK' _ _ ⟨hI.1.stepL chg2a 4 19 rfl (by rw [hsz]; decide) _ _ rfl hall hS (fun _ _ _ h => h) rfl, hI.2.keep 4 (fun h => h) (fun h => h)⟩
  · have e4 : c.tmps.getD 19 undef = .pointer (some ⟨Z, 0, none⟩) := hI.1.fact 4 19 rfl (listed hall 4 (by kernel_rfl))
    simp only [Array.getD_eq_getD_getElem?] at e4
    have hX := hS.1.cell 0
    go_simp
    exact hK' _ _ ⟨hI.1.stepL chg2a 5 20 rfl (by rw [hsz]; decide) _ _ rfl hall hS (fun _ _ _ h => h) rfl, hI.2.keep 5 (fun h => h) (fun h => h)⟩
  · go_simp
    exact hK' _ _ ⟨hI.1.stepL chg2a 6 21 rfl (by rw [hsz]; decide) _ _ rfl hall hS (fun _ _ _ h => h) rfl, hI.2.keep 6 (fun h => h) (fun h => h)⟩
  · have e5 : c.tmps.getD 20 undef = .slice (some ⟨gT, 0, none⟩) n cap := hI.1.fact 5 20 rfl (listed hall 5 (by kernel_rfl))
    simp only [Array.getD_eq_getD_getElem?] at e5
    have e6 : c.tmps.getD 21 undef = .int .i64 at_ := hI.1.fact 6 21 rfl (listed hall 6 (by kernel_rfl))
    simp only [Array.getD_eq_getD_getElem?] at e6
    go_simp
    exact hK' _ _ ⟨hI.1.stepL chg2a 7 22 rfl (by rw [hsz]; decide) _ _ rfl hall hS (fun _ _ _ h => h) rfl, hI.2.keep 7 (fun h => h) (fun h => h)⟩
  · have e7 : c.tmps.getD 22 undef = .pointer (some ⟨gT, at_ * 3, none⟩) := hI.1.fact 7 22 rfl (listed hall 7 (by kernel_rfl))
    simp only [Array.getD_eq_getD_getElem?] at e7
    go_simp
    exact hK' _ _ ⟨hI.1.stepL chg2a 8 23 rfl (by rw [hsz]; decide) _ _ rfl hall hS (fun _ _ _ h => h) rfl, hI.2.keep 8 (fun h => h) (fun h => h)⟩
  · have e8 : c.tmps.getD 23 undef = .pointer (some ⟨gT, at_ * 3 + 2, none⟩) := hI.1.fact 8 23 rfl (listed hall 8 (by kernel_rfl))
    simp only [Array.getD_eq_getD_getElem?] at e8
    have u10 := hI.1.2.2.1.2.unlisted hl (j := 10) (by kernel_rfl)
    have hX := (hcell wx ((hI.2.1 u10).mono (fun _ _ e => e.elim))).1
    go_simp
    exact hK' _ _ ⟨hI.1.stepL chg2a 9 24 rfl (by rw [hsz]; decide) _ _ rfl hall hS (fun _ _ _ h => h) rfl, hI.2.keep 9 (fun h => h) (fun h => h)⟩
  · have e3 : c.tmps.getD 18 undef = .func (.func fn) #[] caps := hI.1.fact 3 18 rfl (listed hall 3 (by kernel_rfl))
    simp only [Array.getD_eq_getD_getElem?] at e3
    have e9 : c.tmps.getD 24 undef = pv := hI.1.fact 9 24 rfl (listed hall 9 (by kernel_rfl))
    simp only [Array.getD_eq_getD_getElem?] at e9
    have u13 := hI.1.2.2.1.2.unlisted hl (j := 13) (by kernel_rfl)
    have kq := hI.2.1 hl
    go_simp
    refine (hcl.out wx kq).mono ?_
    rintro e w2 ⟨rv, rfl, hr, k2⟩
    go_simp
    exact hK' _ _ ⟨hI.1.stepL chg2a 10 25 rfl (by rw [hsz]; decide) _ _ rfl hall (hS.call hZp k2) (fun j hj _ h => h.call (yes_no hj hl) (yes_no hj u13)) hr, ⟨(fun h => absurd rfl (listed_at h (by rw [hI.1.2.2.1.1, chg2n]; decide))), fun h => (kq.mono (fun _ _ e => e.elim)).trans k2 (fun _ _ e => e)⟩⟩
  · have e1 : c.tmps.getD 16 undef = .slice (some ⟨gT, 0, none⟩) n cap := hI.1.fact 1 16 rfl (listed hall 1 (by kernel_rfl))
    simp only [Array.getD_eq_getD_getElem?] at e1
    have e2 : c.tmps.getD 17 undef = .int .i64 at_ := hI.1.fact 2 17 rfl (listed hall 2 (by kernel_rfl))
    simp only [Array.getD_eq_getD_getElem?] at e2
    go_simp
    exact hK' _ _ ⟨hI.1.stepL chg2a 11 26 rfl (by rw [hsz]; decide) _ _ rfl hall hS (fun _ _ _ h => h) rfl, hI.2.keep 11 (fun h => h) (fun h => h)⟩
  · have e11 : c.tmps.getD 26 undef = .pointer (some ⟨gT, at_ * 3, none⟩) := hI.1.fact 11 26 rfl (listed hall 11 (by kernel_rfl))
    simp only [Array.getD_eq_getD_getElem?] at e11
    go_simp
    exact hK' _ _ ⟨hI.1.stepL chg2a 12 27 rfl (by rw [hsz]; decide) _ _ rfl hall hS (fun _ _ _ h => h) rfl, hI.2.keep 12 (fun h => h) (fun h => h)⟩
  · have e12 : c.tmps.getD 27 undef = .pointer (some ⟨gT, at_ * 3 + 2, none⟩) := hI.1.fact 12 27 rfl (listed hall 12 (by kernel_rfl))
    simp only [Array.getD_eq_getD_getElem?] at e12
    have hr : PropRow wx base (c.tmps.getD 25 undef) ps2 := hI.1.fact 10 25 rfl (listed hall 10 (by kernel_rfl))
    generalize hc25 : c.tmps.getD 25 undef = rv at hr
    obtain ⟨a2, c2, hrv⟩ := row_slice hr.1
    subst hrv
    simp only [Array.getD_eq_getD_getElem?] at hc25
    have kq := hI.2.2 hl
    obtain ⟨n0, n1⟩ := hcell wx kq
    obtain ⟨ncs, hH⟩ := hnd
    have hH0 := hH.keeps kq hpg
    go_simp
    exact hK' _ _ ⟨hI.1.stepNL 13 rfl _ rfl hall (hS.put hZg _) (fun j hj _ h => by
      by_cases e : j = 10
      · subst e; exact PropRow.set h hH0 (by decide) _ _
      · exact h.put (yes_no hj hl) e) (hput wx _ hr kq), ⟨(fun h => absurd ((listed_set h).symm.trans (listed hall 10 (by kernel_rfl))) (by decide)), (fun h => absurd rfl (listed_at h (by rw [hI.1.2.2.1.1, chg2n]; decide)))⟩⟩
end Go.Proofs.Ytjfkjnakmmkkiaa

namespace Go.Proofs.Ytjfkjnakmmkkiaa
open Go.RowKit

theorem idx_range (n i : Nat) (h : i < n) : (List.range n).idxOf i = i := by
  induction n with
  | zero => omega
  | succ n ih =>
    rw [List.range_succ]
    by_cases e : i < n
    · rw [List.idxOf_append, if_pos (by simpa using e), ih e]
    · have : i = n := by omega
      subst this
      rw [List.idxOf_append, if_neg (by simp)]
      simp
theorem sorted_self {T : List NodeT} (hc : checkT T = 0) (h0 : 0 < T.length) : sortedT T = T := by
  have hp := check_parts hc
  have hw := walked_ord hp.2.1 h0
  rw [hp.2.2.1] at hw
  have ho : ordT T = List.range T.length := by
    have := hw.symm
    rw [Bool.and_eq_true] at this
    exact of_decide_eq_true this.1
  have hpar := par_of_named hp.2.1
  have hr := named_root hp.2.1 h0
  unfold sortedT
  rw [ho]
  apply List.ext_getElem
  · simp
  · intro i h1 h2
    have hi : i < T.length := h2
    rw [List.getElem_map, List.getElem_range]
    unfold moveT
    rw [nameOf_at hi, propsOf_at hi]
    by_cases e : i = 0
    · subst e
      rw [parOf_at hi]; rfl
    · have e0 : 0 < i := by omega
      obtain ⟨hlt, hpe⟩ := parN_lt hpar e0 hi
      rw [if_neg e, ho, idx_range _ _ (by omega), hpe, parOf_at hi]
theorem propCells_setv : ∀ (ps : List PropT) (k : Nat) (hk : k < ps.length) (x : ByteArray), propCells (ps.set k ⟨ps[k].name, x⟩) = (propCells ps).set (k * 2 + 1) (.string x)
  | p :: ps, 0, _, _ => rfl
  | p :: ps, k + 1, hk, x => by
    have := propCells_setv ps k (by simpa using hk) x
    rw [show (k + 1) * 2 + 1 = k * 2 + 1 + 1 + 1 from by omega]
    simp only [List.set_cons_succ, propCells, List.getElem_cons_succ]
    rw [this]
/-- The closure of Set. -/
theorem tree_Set1 (base bo bk bn bv : Nat) (v : Value) (ps : List PropT) (name value : ByteArray) (w : World) (hr : PropRow w base v ps) (hl : ps.length ≤ 1000) (hp : PropOk ⟨name, value⟩) (hbase : base ≤ w.heap.size)
    (ho : Holds w bo #[.bool (hasT ps name)] 4) (hk : Holds w bk #[.int .i64 (lowT ps name)] 3) (hn : Holds w bn #[.string name] 9) (hv : Holds w bv #[.string value] 9) :
    Calls Try.prog 68 #[v, .pointer (some ⟨bo, 0, none⟩), .pointer (some ⟨bk, 0, none⟩), .pointer (some ⟨bn, 0, none⟩), .pointer (some ⟨bv, 0, none⟩)] w fun e w' => ∃ v', e = .returned v' ∧ PropRow w' base v' (putT ps ⟨name, value⟩) ∧ Keeps (fun b => v.ownBlock = some b) w w' := by
  have x0 := ho.cell 0
  have x1 := hk.cell 0
  have x2 := hn.cell 0
  have x3 := hv.cell 0
  have hle := low_le ps name
  cases hh : hasT ps name with
  | false =>
    rw [hh] at x0
    have hpe := Lib.hid (show putT ps ⟨name, value⟩ = insP ps (lowT ps name) ⟨name, value⟩ from by unfold putT insP restT; simp only [hh]; rfl)
    have hb1 : Below w.heap.size w (w.alloc (.cells #[.string name, .string value] 48)) := (Below.refl _ _).alloc (Nat.le_refl _) _
    have hins := Lib.hid (props_Insert base w.heap.size v ps (lowT ps name) ⟨name, value⟩ _ (hr.new hb1) hle hl (Holds.new w #[.string name, .string value] 48) (fun e => Nat.lt_irrefl _ (hr.1.lt _ e).2) hp (by simp; omega))
    have HR := Lib.hid hr
    obtain ⟨va, vc, rfl⟩ := row_slice hr.1
    clear hr ho hk hn hv hh
    generalize lowT ps name = k at *
    go_enter Try.func68, Try.ntmps68
    go_wp2_with fail
    refine hins.out.mono ?_
    rintro e w2 ⟨v2, rfl, hr2, k2⟩
    go_wp2_with fail
    go_ret
    exact ⟨_, rfl, by rw [hpe.out]; exact hr2, (Keeps.of_fresh hb1 (fun b => (Value.slice va ps.length vc).ownBlock = some b)).trans k2 (fun _ _ e => e)⟩
  | true =>
    rw [hh] at x0
    have hlt : lowT ps name < ps.length := by
      by_cases e : lowT ps name < ps.length
      · exact e
      · rw [has_none (by omega)] at hh; cases hh
    have hnm : ps[lowT ps name].name = name := by
      rw [has_at hlt] at hh
      exact (eqS_iff _ _).1 hh
    have hpe : putT ps ⟨name, value⟩ = ps.set (lowT ps name) ⟨ps[lowT ps name].name, value⟩ := by
      unfold putT restT
      simp only [hh, if_true]
      rw [List.set_eq_take_append_cons_drop, if_pos hlt, hnm]
    obtain ⟨g, cap', ev, -, hg⟩ := hr.1.form (by omega)
    subst ev
    obtain ⟨_, cur, hH⟩ := owned_holds hr.1 (g := g) rfl
    have hlen := propCells_len ps
    have c0 : w.cell? ⟨g, lowT ps name * 2 + 1, none⟩ = some ((propCells ps)[lowT ps name * 2 + 1]'(by omega)) := (hr.1.cellAt _ (by omega)).trans (List.getElem?_eq_getElem (by omega))
    have cf := hH.free (lowT ps name * 2 + 1)
    obtain ⟨s1, s2⟩ := hr.1.stored (lowT ps name * 2 + 1) (.string value)
    have HF := Lib.hid (show PropRow (w.setCell ⟨g, lowT ps name * 2 + 1, none⟩ (.string value)) base (.slice (some ⟨g, 0, none⟩) ps.length cap') (putT ps ⟨name, value⟩) from by
      rw [hpe]
      refine ⟨?_, fun q hq => ?_⟩
      · rw [propCells_setv ps _ hlt, List.length_set]; exact s1
      · rcases List.mem_or_eq_of_mem_set hq with h | h
        · exact hr.2 q h
        · rw [h, hnm]; exact hp)
    have hk2 : ((lowT ps name : Nat) : Int) < (ps.length : Int) := by omega
    have hK := Lib.hid (show Keeps (fun b => (Value.slice (some ⟨g, 0, none⟩) ps.length cap').ownBlock = some b) w (w.setCell ⟨g, lowT ps name * 2 + 1, none⟩ (.string value)) from (Keeps.refl (fun b => (Value.slice (some ⟨g, 0, none⟩) ps.length cap').ownBlock = some b) w).setCell (p := ⟨g, lowT ps name * 2 + 1, none⟩) (Or.inr (show some g = some g from rfl)) _)
    generalize (propCells ps)[lowT ps name * 2 + 1]'(by omega) = ov at c0
    clear hr ho hk hn hv hh hpe s1 s2 hH hnm hlen
    generalize putT ps ⟨name, value⟩ = qs at HF ⊢
    generalize lowT ps name = k at *
    go_enter Try.func68, Try.ntmps68
    go_wp2_with fail
    go_ret
    exact ⟨_, rfl, HF.out, hK.out⟩

set_option maxRecDepth 100000 in
set_option maxHeartbeats 4000000 in
theorem tree_changed (R : Nat → Prop) (v : Value) (T : List NodeT) (at_ fn : Nat) (caps : Array Value) (qs : List PropT) (w : World) (hT : NodesIn R w v T) (hc : checkT T = 0) (hat : at_ < T.length) (heg : ∀ args w, (callFunc fn args).run Try.prog w = .ok (.enter fn args) w)
    (hcl : ∀ base u wx, Below w.heap.size w wx → w.heap.size ≤ base → base ≤ wx.heap.size → PropRow wx base u T[at_].props → Calls Try.prog fn (#[u] ++ caps) wx fun e w' => ∃ v', e = .returned v' ∧ PropRow w' base v' qs ∧ Keeps (fun b => u.ownBlock = some b) wx w') :
    Calls Try.prog 67 #[.agg #[v], .int .i64 at_, .func (.func fn) #[] caps] w fun e w' => ∃ v', e = .returned (.agg #[v']) ∧ TreeRow w' w.heap.size v' (T.set at_ ⟨T[at_].parent, T[at_].name, qs⟩) ∧ Below w.heap.size w w' := by
  obtain ⟨a, cap, rfl, hc1, hc2⟩ := hT.shape
  have h0 : 0 < T.length := by omega
  have hl2 := (limits_len (check_limits hc)).2
  have hp := check_parts hc
  have hS : Shape T := ⟨h0, par_of_named hp.2.1, named_root hp.2.1 h0⟩
  have hwt := Lib.hid (fun wx hx => walk_TreeS R (.slice a T.length cap) T wx hx hS (dis_check hc) (by omega) (check_props hc))
  have hss := sorted_self hc h0
  have HT := Lib.hid hT
  have HCL := Lib.hid hcl
  have hb0 : Below w.heap.size w ((w.alloc (.cells #[.slice a T.length cap] 27)).alloc (.cells #[.slice none 0 0] 27)) := ((Below.refl _ _).alloc (Nat.le_refl _) _).alloc (by simp) _
  have hRB := Holds.newAt (w := w.alloc (.cells #[.slice a T.length cap] 27)) (B := w.heap.size + 1) (by simp) #[.slice none 0 0] 27
  have hTB := (Holds.new w #[.slice a T.length cap] 27).alloc (.cells #[.slice none 0 0] 27)
  have hNN := HT.out.new hb0
  clear hT hcl hp hS hc
  go_enter Try.func67, Try.ntmps67
  go_wp2_with fail
  refine (hwt.out _ (by exact hNN)).mono ?_
  rintro e w1 ⟨tv, gP, l, rfl, hr, hgP, hPP, hll, -, hb1⟩
  rw [hss] at hr
  obtain ⟨gT, tc, rfl⟩ : ∃ gT tc, tv = .slice (some ⟨gT, 0, none⟩) T.length tc := by
    obtain ⟨_, _, g2, _⟩ := hr.row
    obtain ⟨g, c, e, _⟩ := g2.form h0
    exact ⟨g, c, e⟩
  have hgl1 : gT < w1.heap.size := tree_own_lt hr.row rfl
  have hbz : Below w1.heap.size w1 (w1.alloc (.cells #[.slice (some ⟨gT, 0, none⟩) T.length tc] 27)) := (Below.refl _ _).alloc (Nat.le_refl _) _
  have hr1 := hr.new hbz
  have hZ := Holds.new w1 #[.slice (some ⟨gT, 0, none⟩) T.length tc] 27
  obtain ⟨pv, p0, hpr, hpg, hgl, hcell, hput⟩ := hr1.put at_ hat
  have hnd : ∃ cs, Holds (w1.alloc (.cells #[.slice (some ⟨gT, 0, none⟩) T.length tc] 27)) gT cs 42 := (tree_own_holds hr1.row rfl).2
  have hZp : pv.ownBlock ≠ some w1.heap.size := fun e => owns_ne_holds hpr.1 hZ (by decide) e
  have hb2 : Below w.heap.size w w1 := hb0.trans (hb1.mono (by simp; omega))
  have hb3 := hb2.trans (hbz.mono hb2.size)
  have hRB1 := ((hRB.keeps (Keeps.of_fresh hb1 (fun _ => False)) (fun e => e)).keeps (Keeps.of_fresh hbz (fun _ => False)) (fun e => e))
  have hbl : w.heap.size ≤ ((w.alloc (.cells #[.slice a T.length cap] 27)).alloc (.cells #[.slice none 0 0] 27)).heap.size := by simp; omega
  have hbw : ((w.alloc (.cells #[.slice a T.length cap] 27)).alloc (.cells #[.slice none 0 0] 27)).heap.size ≤ w1.heap.size := hb1.size
  generalize ((w.alloc (.cells #[.slice a T.length cap] 27)).alloc (.cells #[.slice none 0 0] 27)).heap.size = b2 at *
  have hcl2 : Hid (∀ wx, Keeps (fun _ => False) (w1.alloc (.cells #[.slice (some ⟨gT, 0, none⟩) T.length tc] 27)) wx → Calls Try.prog fn (#[pv] ++ caps) wx fun e w' => ∃ rv, e = .returned rv ∧ PropRow w' b2 rv qs ∧ Keeps (fun b => pv.ownBlock = some b) wx w') :=
    Lib.hid (fun wx k => HCL.out b2 pv wx (hb3.trans (k.below hb3.size (fun _ _ e => e))) hbl (Nat.le_trans hbw (Nat.le_trans (by simp) k.size)) ⟨ownsRow_keeps hpr.1 k (fun _ _ e => e), hpr.2⟩)
  have hown : ∀ b, pv.ownBlock = some b → w.heap.size ≤ b ∧ ∃ cur, Holds (w1.alloc (.cells #[.slice (some ⟨gT, 0, none⟩) T.length tc] 27)) b cur 48 := fun b e => by
    obtain ⟨q1, q2⟩ := owned_holds hpr.1 e
    exact ⟨by omega, q2⟩
  have hgb : w.heap.size ≤ gT := by have := (tree_own_holds hr1.row (g := gT) rfl).1; omega
  have hZ1 : w1.heap.size ≠ gT := by omega
  have hRo : pv.ownBlock ≠ some (w.heap.size + 1) := fun e => by
    obtain ⟨_, cur, q⟩ := hown _ e
    exact holds_ne q hRB1 (by decide) rfl
  have hRg : w.heap.size + 1 ≠ gT := fun e => by
    obtain ⟨cs, q⟩ := hnd
    exact holds_ne hRB1 q (by decide) e
  clear hr hNN hPP hb0 hRB hTB HCL hll hr1 hb2 hpr hwt
  go_wp2_with fail
  generalize hWe : w1.alloc (.cells #[.slice (some ⟨gT, 0, none⟩) T.length tc] 27) = W at *
  refine wp_region_any (by kernel_rfl) ?_
  refine wpAny_ops (ops' := chgOps 2) (by kernel_rfl) ?_
  refine chg_region2 b2 w1.heap.size gT T.length tc at_ fn caps pv qs (T.set at_ ⟨T[at_].parent, T[at_].name, qs⟩) W _ _ rfl hat hZp hZ1 hpg hnd rfl rfl rfl hcell heg hcl2 (fun wx rv h k => hput wx rv qs h k) ⟨hZ, (Keeps.refl _ _).drew⟩ ((Keeps.refl _ _).drew) ?_
  intro c w2 hsb hS2 hT2
  obtain ⟨y15, y16, y17, y18, y19, y20, y21, y22, y23, y24, y25, y26, y27, hc⟩ := hsb.ex [15, 16, 17, 18, 19, 20, 21, 22, 23, 24, 25, 26, 27] (by kernel_rfl)
  subst hc
  simp only [List.setIfInBounds_toArray, List.set_cons_zero, List.set_cons_succ]
  have hk2 := hS2.2
  have hRB2 := hRB1.keeps hk2 (fun e => by rcases e with e | e; exact hRo e; exact hRg e)
  have hb4 : Below w.heap.size w w2 := hb3.trans (hk2.below hb3.size (fun i hi e => by
    rcases e with e | e
    · have := (hown i e).1; omega
    · omega))
  have z0 := hS2.1.cell 0
  have r0 := hRB2.cell 0
  have rf := hRB2.free 0
  have hfin := (hT2.base hbl).set hRB2 (by decide) (by decide) 0 (.slice (some ⟨gT, 0, none⟩) T.length tc)
  have q0 := (hRB2.set 0 (.slice (some ⟨gT, 0, none⟩) T.length tc)).cell 0
  have hb5 := hb4.setCell (p := ⟨w.heap.size + 1, 0, none⟩) (by simp) (.slice (some ⟨gT, 0, none⟩) T.length tc)
  have HF := Lib.hid (And.intro hfin hb5)
  clear hfin hb5 hS2 hT2 hk2 hRB2 hRB1 hZ hb3 hb4 hcl2 hcell hput hnd hown hsb HT
  go_wp2_with fail
  exact bodyPost_ret (v := .agg #[.slice (some ⟨gT, 0, none⟩) T.length tc]) (by simp [results, Try.results67, go_sem, q0]) rfl ⟨_, rfl, HF.out⟩
end Go.Proofs.Ytjfkjnakmmkkiaa

namespace Go.Proofs.Ytjfkjnakmmkkiaa
open Go.RowKit

noncomputable def setOps (n : Nat) : Array Oper := (regOps (Try.f35.body.getD .skip) n).getD #[]
theorem setR : inRow2 .any (setOps 6) = true := by kernel_rfl
theorem setRa : apartB (setOps 6) = true := by kernel_rfl
theorem setRn : (setOps 6).size = 14 := by kernel_rfl
def SetF (X g o n cap at_ bn : Nat) (nd : NodeT) (pa : Option Addr) (pc : Nat) (name : ByteArray) (Nk No : Nat) (j : Nat) : Value → World → Prop := match j with
  | 0 => fun u _ => u = .pointer (some ⟨X, 0, none⟩)
  | 1 => fun u _ => u = .slice (some ⟨g, o, none⟩) n cap
  | 2 => fun u _ => u = .int .i64 at_
  | 3 => fun u _ => u = .pointer (some ⟨g, o + at_ * 3, none⟩)
  | 4 => fun u _ => u = .agg #[.int .i64 nd.parent, .string nd.name, .slice pa nd.props.length pc]
  | 5 => fun u _ => u = .string name
  | 6 => fun u _ => u = .tuple #[.int .i64 (lowT nd.props name), .bool (hasT nd.props name)]
  | 7 => fun u _ => u = .tuple #[.int .i64 (lowT nd.props name), .bool (hasT nd.props name)]
  | 8 => fun u _ => u = .int .i64 (lowT nd.props name)
  | 9 => fun u _ => u = .bool (hasT nd.props name)
  | 10 => fun u w => u = .pointer (some ⟨Nk, 0, none⟩) ∧ ∃ x, Holds w Nk #[x] 3
  | 11 => fun u w => u = .pointer (some ⟨No, 0, none⟩) ∧ ∃ x, Holds w No #[x] 4
  | 12 => fun _ w => Holds w Nk #[.int .i64 (lowT nd.props name)] 3
  | 13 => fun _ w => Holds w No #[.bool (hasT nd.props name)] 4
  | _ => fun _ _ => True
section
variable {X g o n cap at_ bn : Nat} {nd : NodeT} {pa : Option Addr} {pc : Nat} {name : ByteArray} {Nk No : Nat} {w w' : World} {j : Nat} {u : Value}
theorem SetF.new (h : SetF X g o n cap at_ bn nd pa pc name Nk No j u w) (k : Below w.heap.size w w') : SetF X g o n cap at_ bn nd pa pc name Nk No j u w' := by
  unfold SetF at *
  have kk := Keeps.of_fresh k (fun _ => False)
  split at h
  all_goals first
    | exact h
    | exact ⟨h.1, h.2.choose, h.2.choose_spec.keeps kk (fun e => e)⟩
    | exact Holds.keeps h kk (fun e => e)
theorem SetF.ghostNk {N2 : Nat} (h : SetF X g o n cap at_ bn nd pa pc name Nk No j u w) (h10 : j ≠ 10) (h12 : j ≠ 12) : SetF X g o n cap at_ bn nd pa pc name N2 No j u w := by
  unfold SetF at *
  split at h
  all_goals first
    | exact absurd rfl h10
    | exact absurd rfl h12
    | exact h
theorem SetF.ghostNo {N2 : Nat} (h : SetF X g o n cap at_ bn nd pa pc name Nk No j u w) (h11 : j ≠ 11) (h13 : j ≠ 13) : SetF X g o n cap at_ bn nd pa pc name Nk N2 j u w := by
  unfold SetF at *
  split at h
  all_goals first
    | exact absurd rfl h11
    | exact absurd rfl h13
    | exact h
theorem SetF.putNk {x : Value} (h : SetF X g o n cap at_ bn nd pa pc name Nk No j u w) (hH : Holds w Nk #[x] 3) : SetF X g o n cap at_ bn nd pa pc name Nk No j u (w.setCell ⟨Nk, 0, none⟩ (.int .i64 (lowT nd.props name))) := by
  unfold SetF at *
  split at h
  all_goals first
    | exact h
    | exact ⟨h.1, _, hH.set 0 _⟩
    | exact hH.set 0 _
    | exact ⟨h.1, h.2.choose, h.2.choose_spec.other _ _ (holds_ne h.2.choose_spec hH (by decide))⟩
    | exact Holds.other h _ _ (holds_ne h hH (by decide))
theorem SetF.putNo {x : Value} (h : SetF X g o n cap at_ bn nd pa pc name Nk No j u w) (hH : Holds w No #[x] 4) : SetF X g o n cap at_ bn nd pa pc name Nk No j u (w.setCell ⟨No, 0, none⟩ (.bool (hasT nd.props name))) := by
  unfold SetF at *
  split at h
  all_goals first
    | exact h
    | exact ⟨h.1, _, hH.set 0 _⟩
    | exact hH.set 0 _
    | exact ⟨h.1, h.2.choose, h.2.choose_spec.other _ _ (holds_ne h.2.choose_spec hH (by decide))⟩
    | exact Holds.other h _ _ (holds_ne h hH (by decide))
end

set_option maxHeartbeats 4000000 in
set_option maxRecDepth 100000 in
theorem set_region {Q : Exit → Act → World → Prop} (X g o n cap at_ bn : Nat) (nd : NodeT) (pa : Option Addr) (pc : Nat) (name : ByteArray) (W w : World) (A : Act) (hsz : A.tmps.size = 60) (hat : at_ < n) (hgl : g < W.heap.size)
    (hXW : Holds W X #[.slice (some ⟨g, o, none⟩) n cap] 27) (hnW : Holds W bn #[.string name] 9)
    (q0 : W.cell? ⟨g, o + at_ * 3, none⟩ = some (.int .i64 nd.parent)) (q1 : W.cell? ⟨g, o + at_ * 3 + 1, none⟩ = some (.string nd.name)) (q2 : W.cell? ⟨g, o + at_ * 3 + 2, none⟩ = some (.slice pa nd.props.length pc))
    (ax : A.tmps.getD 4 undef = .pointer (some ⟨X, 0, none⟩)) (aa : A.tmps.getD 10 undef = .int .i64 at_) (an : A.tmps.getD 6 undef = .pointer (some ⟨bn, 0, none⟩))
    (hpr : Hid (∀ wx, Below W.heap.size W wx → Calls Try.prog 66 #[.agg #[.int .i64 nd.parent, .string nd.name, .slice pa nd.props.length pc], .string name] wx fun e w' => e = .returned (.tuple #[.int .i64 (lowT nd.props name), .bool (hasT nd.props name)]) ∧ Below wx.heap.size wx w'))
    (hS : Below W.heap.size W w)
    (hQ : ∀ c w' Nk No, SameBut (setOps 6) A c → Below W.heap.size W w' → c.tmps.getD 12 undef = .pointer (some ⟨Nk, 0, none⟩) → Holds w' Nk #[.int .i64 (lowT nd.props name)] 3 → c.tmps.getD 13 undef = .pointer (some ⟨No, 0, none⟩) → Holds w' No #[.bool (hasT nd.props name)] 4 → W.heap.size ≤ Nk → W.heap.size ≤ No → Q .normal c w') :
    wpAny Try.prog .any (setOps 6) Q (setOps 6).size (Array.replicate (setOps 6).size false) A w := by
  refine wpAny_inv2 (fun l c wx => ∃ Nk No, RInv (setOps 6) A (SetF X g o n cap at_ bn nd pa pc name Nk No) (fun wx => Below W.heap.size W wx) l c wx ∧ W.heap.size ≤ Nk ∧ W.heap.size ≤ No) setR ?hend ?hstep _ _ _ _ (by simp) (by simp) ⟨W.heap.size, W.heap.size, RInv.start hS, Nat.le_refl _, Nat.le_refl _⟩
  case hend =>
    rintro l c wx ⟨Nk, No, hI, hNk, hNo⟩ hl
    have hh : ∀ k, k < 14 → l.getD k false = true := fun k hk => hl k (by rw [setRn]; exact hk)
    obtain ⟨e10, _⟩ : c.tmps.getD 12 undef = .pointer (some ⟨Nk, 0, none⟩) ∧ ∃ x, Holds wx Nk #[x] 3 := hI.fact 10 12 rfl (hh 10 (by decide))
    obtain ⟨e11, _⟩ : c.tmps.getD 13 undef = .pointer (some ⟨No, 0, none⟩) ∧ ∃ x, Holds wx No #[x] 4 := hI.fact 11 13 rfl (hh 11 (by decide))
    have h12 : Holds wx Nk #[.int .i64 (lowT nd.props name)] 3 := hI.2.2.2 12 (by rw [setRn]; decide) (hh 12 (by decide))
    have h13 : Holds wx No #[.bool (hasT nd.props name)] 4 := hI.2.2.2 13 (by rw [setRn]; decide) (hh 13 (by decide))
    exact hQ c wx Nk No hI.1 hI.2.1 e10 h12 e11 h13 hNk hNo
  intro l c wx hI i' op ho hl hall K' hK'
  obtain ⟨Nk, No, hI, hNk, hNo⟩ := hI
  have hi13 : i' < 14 := by rw [← setRn]; exact (Array.getElem?_eq_some_iff.1 ho).1
  simp only [setOps, regOps, Try.f35, Option.getD_some, reduceIte, Nat.reduceEqDiff] at ho
  have hS := hI.2.1
  have hii : (at_ : Int) < n := by omega
  have hii0 : (0 : Int) ≤ at_ := by omega
  have sx := (hI.slot 4 (by kernel_rfl)).trans ax
  have sa := (hI.slot 10 (by kernel_rfl)).trans aa
  have sn := (hI.slot 6 (by kernel_rfl)).trans an
  simp only [Array.getD_eq_getD_getElem?] at sx sa sn
  have hic : i' = 0 ∨ i' = 1 ∨ i' = 2 ∨ i' = 3 ∨ i' = 4 ∨ i' = 5 ∨ i' = 6 ∨ i' = 7 ∨ i' = 8 ∨ i' = 9 ∨ i' = 10 ∨ i' = 11 ∨ i' = 12 ∨ i' = 13 := by omega
  rcases hic with rfl | rfl | rfl | rfl | rfl | rfl | rfl | rfl | rfl | rfl | rfl | rfl | rfl | rfl
  all_goals cases ho
  · go_simp
    exact hK' _ _ ⟨Nk, No, hI.step setRa 0 29 rfl (by rw [hsz]; decide) _ _ rfl hall hS (fun _ _ h => h) rfl, hNk, hNo⟩
  · have e0 : c.tmps.getD 29 undef = .pointer (some ⟨X, 0, none⟩) := hI.fact 0 29 rfl (listed hall 0 (by kernel_rfl))
    simp only [Array.getD_eq_getD_getElem?] at e0
    have hX := (hXW.keeps (Keeps.of_fresh hS (fun _ => False)) (fun e => e)).cell 0
    go_simp
    exact hK' _ _ ⟨Nk, No, hI.step setRa 1 30 rfl (by rw [hsz]; decide) _ _ rfl hall hS (fun _ _ h => h) rfl, hNk, hNo⟩
  · go_simp
    exact hK' _ _ ⟨Nk, No, hI.step setRa 2 31 rfl (by rw [hsz]; decide) _ _ rfl hall hS (fun _ _ h => h) rfl, hNk, hNo⟩
  · have e1 : c.tmps.getD 30 undef = .slice (some ⟨g, o, none⟩) n cap := hI.fact 1 30 rfl (listed hall 1 (by kernel_rfl))
    simp only [Array.getD_eq_getD_getElem?] at e1
    have e2 : c.tmps.getD 31 undef = .int .i64 at_ := hI.fact 2 31 rfl (listed hall 2 (by kernel_rfl))
    simp only [Array.getD_eq_getD_getElem?] at e2
    go_simp
    exact hK' _ _ ⟨Nk, No, hI.step setRa 3 32 rfl (by rw [hsz]; decide) _ _ rfl hall hS (fun _ _ h => h) rfl, hNk, hNo⟩
  · have e3 : c.tmps.getD 32 undef = .pointer (some ⟨g, o + at_ * 3, none⟩) := hI.fact 3 32 rfl (listed hall 3 (by kernel_rfl))
    simp only [Array.getD_eq_getD_getElem?] at e3
    have c0 := (hS.cell (p := ⟨g, o + at_ * 3, none⟩) hgl).trans q0
    have c1 := (hS.cell (p := ⟨g, o + at_ * 3 + 1, none⟩) hgl).trans q1
    have c2 := (hS.cell (p := ⟨g, o + at_ * 3 + 2, none⟩) hgl).trans q2
    go_simp
    exact hK' _ _ ⟨Nk, No, hI.step setRa 4 33 rfl (by rw [hsz]; decide) _ _ rfl hall hS (fun _ _ h => h) rfl, hNk, hNo⟩
  · have hX := (hnW.keeps (Keeps.of_fresh hS (fun _ => False)) (fun e => e)).cell 0
    go_simp
    exact hK' _ _ ⟨Nk, No, hI.step setRa 5 34 rfl (by rw [hsz]; decide) _ _ rfl hall hS (fun _ _ h => h) rfl, hNk, hNo⟩
  · have e4 : c.tmps.getD 33 undef = .agg #[.int .i64 nd.parent, .string nd.name, .slice pa nd.props.length pc] := hI.fact 4 33 rfl (listed hall 4 (by kernel_rfl))
    simp only [Array.getD_eq_getD_getElem?] at e4
    have e5 : c.tmps.getD 34 undef = .string name := hI.fact 5 34 rfl (listed hall 5 (by kernel_rfl))
    simp only [Array.getD_eq_getD_getElem?] at e5
    go_simp
    refine (hpr.out wx hS).mono ?_
    rintro e w2 ⟨rfl, hb2⟩
    go_simp
    have hS2 : Below W.heap.size W w2 := hS.trans (hb2.mono hS.size)
    exact hK' _ _ ⟨Nk, No, hI.step setRa 6 35 rfl (by rw [hsz]; decide) _ _ rfl hall hS2 (fun _ _ h => SetF.new h hb2) rfl, hNk, hNo⟩
  · have e6 : c.tmps.getD 35 undef = .tuple #[.int .i64 (lowT nd.props name), .bool (hasT nd.props name)] := hI.fact 6 35 rfl (listed hall 6 (by kernel_rfl))
    simp only [Array.getD_eq_getD_getElem?] at e6
    go_simp
    exact hK' _ _ ⟨Nk, No, hI.step setRa 7 28 rfl (by rw [hsz]; decide) _ _ rfl hall hS (fun _ _ h => h) rfl, hNk, hNo⟩
  · have e7 : c.tmps.getD 28 undef = .tuple #[.int .i64 (lowT nd.props name), .bool (hasT nd.props name)] := hI.fact 7 28 rfl (listed hall 7 (by kernel_rfl))
    simp only [Array.getD_eq_getD_getElem?] at e7
    go_simp
    exact hK' _ _ ⟨Nk, No, hI.step setRa 8 36 rfl (by rw [hsz]; decide) _ _ rfl hall hS (fun _ _ h => h) rfl, hNk, hNo⟩
  · have e7 : c.tmps.getD 28 undef = .tuple #[.int .i64 (lowT nd.props name), .bool (hasT nd.props name)] := hI.fact 7 28 rfl (listed hall 7 (by kernel_rfl))
    simp only [Array.getD_eq_getD_getElem?] at e7
    go_simp
    exact hK' _ _ ⟨Nk, No, hI.step setRa 9 37 rfl (by rw [hsz]; decide) _ _ rfl hall hS (fun _ _ h => h) rfl, hNk, hNo⟩
  · go_simp
    have hb2 : Below wx.heap.size wx (wx.alloc (.cells #[.int .i64 0] 3)) := (Below.refl _ _).alloc (Nat.le_refl _) _
    have hS2 := hS.trans (hb2.mono hS.size)
    have us := hI.2.2.1.2.unlisted hl (j := 12) (by kernel_rfl)
    have hNn : W.heap.size ≤ wx.heap.size := hS.size
    have hJ := hI.other (F' := SetF X g o n cap at_ bn nd pa pc name wx.heap.size No) (fun j hj u hF => hF.ghostNk (yes_no hj hl) (yes_no hj us))
    exact hK' _ _ ⟨wx.heap.size, No, hJ.step setRa 10 12 rfl (by rw [hsz]; decide) _ _ rfl hall hS2 (fun _ _ h => SetF.new h hb2) ⟨rfl, _, Holds.new _ _ _⟩, hNn, hNo⟩
  · go_simp
    have hb2 : Below wx.heap.size wx (wx.alloc (.cells #[.bool false] 4)) := (Below.refl _ _).alloc (Nat.le_refl _) _
    have hS2 := hS.trans (hb2.mono hS.size)
    have us := hI.2.2.1.2.unlisted hl (j := 13) (by kernel_rfl)
    have hNn : W.heap.size ≤ wx.heap.size := hS.size
    have hJ := hI.other (F' := SetF X g o n cap at_ bn nd pa pc name Nk wx.heap.size) (fun j hj u hF => hF.ghostNo (yes_no hj hl) (yes_no hj us))
    exact hK' _ _ ⟨Nk, wx.heap.size, hJ.step setRa 11 13 rfl (by rw [hsz]; decide) _ _ rfl hall hS2 (fun _ _ h => SetF.new h hb2) ⟨rfl, _, Holds.new _ _ _⟩, hNk, hNn⟩
  · obtain ⟨ep, x, hHN⟩ : c.tmps.getD 12 undef = .pointer (some ⟨Nk, 0, none⟩) ∧ ∃ x, Holds wx Nk #[x] 3 := hI.fact 10 12 rfl (listed hall 10 (by kernel_rfl))
    simp only [Array.getD_eq_getD_getElem?] at ep
    have e8 : c.tmps.getD 36 undef = .int .i64 (lowT nd.props name) := hI.fact 8 36 rfl (listed hall 8 (by kernel_rfl))
    simp only [Array.getD_eq_getD_getElem?] at e8
    have n0 : wx.cell? ⟨Nk, 0, none⟩ = some x := hHN.cell 0
    have n1 : wx.frozen? ⟨Nk, 0, none⟩ = false := hHN.free 0
    go_simp
    have hS2 : Below W.heap.size W (wx.setCell ⟨Nk, 0, none⟩ (.int .i64 (lowT nd.props name))) := hS.setCell (p := ⟨Nk, 0, none⟩) hNk _
    exact hK' _ _ ⟨Nk, No, hI.stepN 12 rfl _ rfl hall hS2 (fun _ _ h => h.putNk hHN) (hHN.set 0 _), hNk, hNo⟩
  · obtain ⟨ep, x, hHN⟩ : c.tmps.getD 13 undef = .pointer (some ⟨No, 0, none⟩) ∧ ∃ x, Holds wx No #[x] 4 := hI.fact 11 13 rfl (listed hall 11 (by kernel_rfl))
    simp only [Array.getD_eq_getD_getElem?] at ep
    have e9 : c.tmps.getD 37 undef = .bool (hasT nd.props name) := hI.fact 9 37 rfl (listed hall 9 (by kernel_rfl))
    simp only [Array.getD_eq_getD_getElem?] at e9
    have n0 : wx.cell? ⟨No, 0, none⟩ = some x := hHN.cell 0
    have n1 : wx.frozen? ⟨No, 0, none⟩ = false := hHN.free 0
    go_simp
    have hS2 : Below W.heap.size W (wx.setCell ⟨No, 0, none⟩ (.bool (hasT nd.props name))) := hS.setCell (p := ⟨No, 0, none⟩) hNo _
    exact hK' _ _ ⟨Nk, No, hI.stepN 13 rfl _ rfl hall hS2 (fun _ _ h => h.putNo hHN) (hHN.set 0 _), hNk, hNo⟩
end Go.Proofs.Ytjfkjnakmmkkiaa

namespace Go.Proofs.Ytjfkjnakmmkkiaa
open Go.RowKit

theorem putT_len2 (l : List PropT) (p : PropT) : (putT l p).length = l.length + 1 - (if hasT l p.name = true then 1 else 0) := by
  have h1 := low_le l p.name
  have h2 := rest_le l p.name
  have h3 : restT l p.name = lowT l p.name + if hasT l p.name = true then 1 else 0 := rfl
  unfold putT
  simp only [List.length_append, List.length_take, List.length_cons, List.length_drop]
  cases h : hasT l p.name with
  | true => rw [h, if_pos rfl] at h3; simp only [if_true]; omega
  | false => rw [h, if_neg (by decide)] at h3; rw [if_neg (by decide)]; omega
theorem asc_of_check {T : List NodeT} (hc : checkT T = 0) (k : Nat) (hk : k < T.length) : ascT T[k].props = true := by
  have hp := check_parts hc
  have h := ((walked_iff (par_of_named hp.2.1) (named_root hp.2.1 (by omega))).1 hp.2.2.1).1 k hk
  rw [propsOf_at hk] at h; exact h
theorem set_fit {n : NodeT} (h : fitB n = true) (p : PropT) : fitB (setNode n p) = (decide ((putT n.props p).length ≤ 24) && decide (p.value.size ≤ 256)) := by
  unfold fitB at *
  rw [Bool.and_eq_true] at h
  have ha := List.all_eq_true.1 h.2
  show (decide ((putT n.props p).length ≤ 24) && (putT n.props p).all fun p => decide (p.value.size ≤ 256)) = _
  congr 1
  unfold putT
  rw [List.all_append, List.all_cons]
  rw [List.all_eq_true.2 (fun q hq => ha q (List.mem_of_mem_take hq)), List.all_eq_true.2 (fun q hq => ha q (List.mem_of_mem_drop hq))]
  simp
theorem set_limit {T : List NodeT} (hl : limitsT T = true) {k : Nat} (hk : k < T.length) (p : PropT) : limitsT (setAt T k p) = (decide ((putT T[k].props p).length ≤ 24) && decide (p.value.size ≤ 256)) := by
  have hs : setAt T k p = T.set k (setNode T[k] p) := by unfold setAt; rw [List.getElem?_eq_getElem hk]
  rw [hs]
  unfold limitsT at *
  rw [Bool.and_eq_true] at hl
  have ha := List.all_eq_true.1 hl.2
  rw [List.length_set, hl.1, Bool.true_and, ← set_fit (ha _ (List.getElem_mem hk))]
  cases hf : fitB (setNode T[k] p) with
  | true =>
    rw [List.all_eq_true]
    intro q hq
    rcases List.mem_or_eq_of_mem_set hq with h | h
    · exact ha q h
    · rw [h]; exact hf
  | false =>
    rw [List.all_eq_false]
    exact ⟨_, List.mem_set hk _, by simp [hf]⟩
theorem setT_ok {T : List NodeT} {s name value : ByteArray} {k : Nat} (hb : rBeginT T s = ((k : Int), 0)) : setT T s name value = if propB name = false then ([], 1) else if limitsT (setAt T k ⟨name, value⟩) = false then ([], 3) else (setAt T k ⟨name, value⟩, 0) := by
  unfold setT; rw [hb, if_neg (by simp)]; rfl
theorem enters_Set1 : ∀ args w, (callFunc 68 args).run Try.prog w = .ok (.enter 68 args) w := enters_of Try.func68 (by kernel_rfl) rfl

set_option maxRecDepth 100000 in
set_option maxHeartbeats 4000000 in
theorem tree_Set (R : Nat → Prop) (v : Value) (T : List NodeT) (s name value : ByteArray) (w : World) (hT : NodesIn R w v T) (hns : name.size ≤ 9223372036854775807) (hvs : value.size ≤ 9223372036854775807) :
    Calls Try.prog 35 #[.agg #[v], .string s, .string name, .string value] w (EditPost (setT T s name value) w) := by
  obtain ⟨a, cap, rfl, hc1, hc2⟩ := hT.shape
  have HT := Lib.hid hT.bound; clear hT
  have hbg := fun wx hx => tree_begin (fun g => g < w.heap.size) (.slice a T.length cap) T s wx hx
  obtain ⟨W0, hW0⟩ : ∃ W0, W0 = (((w.alloc (.cells #[.slice a T.length cap] 27)).alloc (.cells #[.string name] 9)).alloc (.cells #[.string value] 9)).alloc (.cells #[.slice none 0 0] 27) := ⟨_, rfl⟩
  have hb0 : Below w.heap.size w W0 := by rw [hW0]; exact ((((Below.refl _ _).alloc (Nat.le_refl _) _).alloc (by simp) _).alloc (by simp; omega) _).alloc (by simp; omega) _
  have hX0 : Holds W0 w.heap.size #[.slice a T.length cap] 27 := by rw [hW0]; exact (((Holds.new w #[.slice a T.length cap] 27).alloc _).alloc _).alloc _
  have hN0 : Holds W0 (w.heap.size + 1) #[.string name] 9 := by rw [hW0]; exact ((Holds.newAt (w := w.alloc (.cells #[.slice a T.length cap] 27)) (B := w.heap.size + 1) (by simp) #[.string name] 9).alloc _).alloc _
  have hV0 : Holds W0 (w.heap.size + 1 + 1) #[.string value] 9 := by rw [hW0]; exact (Holds.newAt (w := (w.alloc (.cells #[.slice a T.length cap] 27)).alloc (.cells #[.string name] 9)) (B := w.heap.size + 1 + 1) (by simp) #[.string value] 9).alloc _
  have hZ0 : Holds W0 (w.heap.size + 1 + 1 + 1) #[.slice none 0 0] 27 := by rw [hW0]; exact Holds.newAt (w := ((w.alloc (.cells #[.slice a T.length cap] 27)).alloc (.cells #[.string name] 9)).alloc (.cells #[.string value] 9)) (B := w.heap.size + 1 + 1 + 1) (by simp) #[.slice none 0 0] 27
  have hT0 : NodesIn (fun g => g < w.heap.size) W0 (.slice a T.length cap) T := HT.out.new hb0
  have hsz0 := hb0.size
  have hzl := hZ0.lt
  rcases begin_cases T s with ⟨hne, h10⟩ | ⟨hck, k, hk, hbe, hps⟩
  · have hE := Lib.hid (show setT T s name value = ([], (rBeginT T s).2) from by unfold setT; rw [if_pos hne])
    have hne' : ((rBeginT T s).2 != 0) = true := by simpa using hne
    rw [h10] at hbg
    have HBG := Lib.hid hbg
    clear hbg hne h10
    generalize (rBeginT T s).2 = c at *
    go_enter Try.func35, Try.ntmps35
    go_wp2_with fail
    rw [← hW0]
    refine (HBG.out _ (by exact hT0)).mono ?_
    rintro e w1 ⟨rfl, hb1⟩
    have hZ1 := hZ0.keeps (Keeps.of_fresh hb1 (fun _ => False)) (fun e => e)
    have hb2 := hb0.trans (hb1.mono hsz0)
    have z0 := hZ1.cell 0
    have zf := hZ1.free 0
    go_wp2_with fail
    have q0 : (w1.setCell ⟨w.heap.size + 1 + 1 + 1, 0, none⟩ (.slice none 0 0)).cell? ⟨w.heap.size + 1 + 1 + 1, 0, none⟩ = some (.slice none 0 0) := (hZ1.set 0 _).cell 0
    exact bodyPost_ret (v := .tuple #[.agg #[.slice none 0 0], .int .i64 c]) (by simp [results, Try.results35, go_sem, q0]) rfl ⟨_, by rw [hE.out], by rw [hE.out]; exact TreeRow.nil _ _, hb2.setCell (p := ⟨w.heap.size + 1 + 1 + 1, 0, none⟩) (by simp; omega) _⟩
  · rw [hbe] at hbg
    have HBG := Lib.hid hbg
    have hE := Lib.hid (setT_ok (name := name) (value := value) hbe)
    have hpn := Lib.hid (fun wx => tree_Property name wx hns)
    have hlim := check_limits hck
    have hl2 := (limits_len hlim).2
    have hpl := (check_props hck) T[k] (List.getElem_mem hk)
    have HCK := Lib.hid hck
    clear hbg hbe hck
    cases hpb : propB name with
    | false =>
      have hF := Lib.hid (show setT T s name value = ([], 1) from by rw [hE.out, if_pos hpb])
      have HPN := Lib.hid (fun wx => by have := hpn.out wx; rw [hpb] at this; exact this)
      clear hpn hpb hE
      go_enter Try.func35, Try.ntmps35
      go_wp2_with fail
      rw [← hW0]
      refine (HBG.out _ (by exact hT0)).mono ?_
      rintro e w1 ⟨rfl, hb1⟩
      have hZ1 := hZ0.keeps (Keeps.of_fresh hb1 (fun _ => False)) (fun e => e)
      have hN1 := hN0.keeps (Keeps.of_fresh hb1 (fun _ => False)) (fun e => e)
      have hb2 := hb0.trans (hb1.mono hsz0)
      have z0 := hZ1.cell 0
      have zf := hZ1.free 0
      have y0 := hN1.cell 0
      go_wp2_with fail
      refine (HPN.out _).mono ?_
      rintro e w2 ⟨rfl, rfl⟩
      go_wp2_with fail
      have q0 : (w1.setCell ⟨w.heap.size + 1 + 1 + 1, 0, none⟩ (.slice none 0 0)).cell? ⟨w.heap.size + 1 + 1 + 1, 0, none⟩ = some (.slice none 0 0) := (hZ1.set 0 _).cell 0
      exact bodyPost_ret (v := .tuple #[.agg #[.slice none 0 0], .int .i64 1]) (by simp [results, Try.results35, go_sem, q0]) rfl ⟨_, by rw [hF.out], by rw [hF.out]; exact TreeRow.nil _ _, hb2.setCell (p := ⟨w.heap.size + 1 + 1 + 1, 0, none⟩) (by simp; omega) _⟩
    | true =>
      have hF := Lib.hid (show setT T s name value = if limitsT (setAt T k ⟨name, value⟩) = false then ([], 3) else (setAt T k ⟨name, value⟩, 0) from by rw [hE.out, if_neg (by rw [hpb]; decide)])
      have HPN := Lib.hid (fun wx => by have := hpn.out wx; rw [hpb] at this; exact this)
      clear hpn hpb hE
      have hlm := set_limit hlim hk ⟨name, value⟩
      rw [putT_len2] at hlm
      have hset : setAt T k ⟨name, value⟩ = T.set k ⟨T[k].parent, T[k].name, putT T[k].props ⟨name, value⟩⟩ := by unfold setAt; rw [List.getElem?_eq_getElem hk]; rfl
      have HSET := Lib.hid hset
      have HLM := Lib.hid hlm
      clear hset hlm
      have hasc := asc_of_check HCK.out k hk
      go_enter Try.func35, Try.ntmps35
      go_wp2_with fail
      rw [← hW0]
      refine (HBG.out _ (by exact hT0)).mono ?_
      rintro e w1 ⟨rfl, hb1⟩
      have kk1 := Keeps.of_fresh hb1 (fun _ => False)
      have hZ1 := hZ0.keeps kk1 (fun e => e)
      have hN1 := hN0.keeps kk1 (fun e => e)
      have hX1 := hX0.keeps kk1 (fun e => e)
      have hV1 := hV0.keeps kk1 (fun e => e)
      have hT1 := hT0.new hb1
      have hb2 := hb0.trans (hb1.mono hsz0)
      have y0 := hN1.cell 0
      clear hZ0 hN0 hX0 hV0 hT0 hb0 hW0 hb1 kk1 HBG
      go_wp2_with fail
      refine (HPN.out _).mono ?_
      rintro e w2 ⟨rfl, rfl⟩
      obtain ⟨g, o, pa, pc, hva, hg, q0, q1, q2, hPP, hpc, hpc2, hns2, hp0, hp1⟩ := hT1.at k hk
      subst hva
      have hprop := Lib.hid (fun (wx : World) (hx : Below w1.heap.size w1 wx) => tree_property (fun g => g < w.heap.size) (.slice pa T[k].props.length pc) T[k] name wx (hPP.new hx) hasc hpl)
      have hgl1 : g < w1.heap.size := hg
      have hs1 := hb2.size
      clear hPP
      go_wp2_with fail
      refine wp_region_any (by kernel_rfl) ?_
      refine wpAny_ops (ops' := setOps 6) (by kernel_rfl) ?_
      refine set_region w.heap.size g o T.length cap k (w.heap.size + 1) T[k] pa pc name w1 w1.drew _ rfl hk hgl1 hX1 hN1 q0 q1 q2 rfl rfl rfl hprop ((Below.refl _ _).drew) ?_
      intro c w3 Nk No hsb hb3 ek hNk eo hNo hkl hol
      obtain ⟨y12, y13, y28, y29, y30, y31, y32, y33, y34, y35, y36, y37, hc⟩ := hsb.ex [12, 13, 28, 29, 30, 31, 32, 33, 34, 35, 36, 37] (by kernel_rfl)
      subst hc
      simp only [List.setIfInBounds_toArray, List.set_cons_zero, List.set_cons_succ] at ek eo ⊢
      have ek' : y12 = .pointer (some ⟨Nk, 0, none⟩) := ek
      have eo' : y13 = .pointer (some ⟨No, 0, none⟩) := eo
      subst ek'
      subst eo'
      have kk3 := Keeps.of_fresh hb3 (fun _ => False)
      have hZ3 := hZ1.keeps kk3 (fun e => e)
      have hX3 := hX1.keeps kk3 (fun e => e)
      have hN3 := hN1.keeps kk3 (fun e => e)
      have hV3 := hV1.keeps kk3 (fun e => e)
      have hT3 := hT1.new hb3
      have hb4 := hb2.trans (hb3.mono hb2.size)
      have q2' := (hb3.cell (p := ⟨g, o + k * 3 + 2, none⟩) hgl1).trans q2
      have x0 := hX3.cell 0
      have z0 := hZ3.cell 0
      have zf := hZ3.free 0
      have v0 := hV3.cell 0
      have o0 := hNo.cell 0
      have hpo : PropOk ⟨name, value⟩ := ⟨hns, hvs⟩
      have hcl : ∀ base u wx, Below w3.heap.size w3 wx → w3.heap.size ≤ base → base ≤ wx.heap.size → PropRow wx base u T[k].props → Calls Try.prog 68 (#[u] ++ #[.pointer (some ⟨No, 0, none⟩), .pointer (some ⟨Nk, 0, none⟩), .pointer (some ⟨w.heap.size + 1, 0, none⟩), .pointer (some ⟨w.heap.size + 1 + 1, 0, none⟩)]) wx fun e w' => ∃ v', e = .returned v' ∧ PropRow w' base v' (putT T[k].props ⟨name, value⟩) ∧ Keeps (fun b => u.ownBlock = some b) wx w' :=
        fun base u wx hbx _ hbb hr => by
          have kx := Keeps.of_fresh hbx (fun _ => False)
          exact tree_Set1 base No Nk (w.heap.size + 1) (w.heap.size + 1 + 1) u T[k].props name value wx hr hpl hpo hbb (hNo.keeps kx (fun e => e)) (hNk.keeps kx (fun e => e)) (hN3.keeps kx (fun e => e)) (hV3.keeps kx (fun e => e))
      have hch := Lib.hid (tree_changed (fun g => g < w.heap.size) (.slice (some ⟨g, o, none⟩) T.length cap) T k 68 _ (putT T[k].props ⟨name, value⟩) w3 hT3 HCK.out hk enters_Set1 hcl)
      have hs4 := hb4.size
      have hEr := Lib.hid (show ∀ (h : limitsT (setAt T k ⟨name, value⟩) = false), setT T s name value = ([], 3) from fun h => by rw [hF.out, if_pos h])
      have hOk := Lib.hid (show ∀ (h : limitsT (setAt T k ⟨name, value⟩) = true), setT T s name value = (T.set k ⟨T[k].parent, T[k].name, putT T[k].props ⟨name, value⟩⟩, 0) from fun h => by rw [hF.out, if_neg (by rw [h]; decide), HSET.out])
      have hZ4 : ∀ x : Value, ((w3.setCell ⟨w.heap.size + 1 + 1 + 1, 0, none⟩ x)).cell? ⟨w.heap.size + 1 + 1 + 1, 0, none⟩ = some x := fun x => (hZ3.set 0 x).cell 0
      have HZ4 := Lib.hid hZ4
      have HB4 := Lib.hid hb4
      have HZ3 := Lib.hid hZ3
      have hkl' : (k : Int) < T.length := by omega
      clear hZ4 hcl hpo hX3 hN3 hV3 hT3 hNk hNo hb3 kk3 hsb ek eo hX1 hN1 hV1 hZ1 hT1 hb2 q0 q1 q2 hprop hasc HPN y0 hb4 hZ3
      by_cases hval : 256 < value.size
      · have hbad : limitsT (setAt T k ⟨name, value⟩) = false := by rw [HLM.out]; simp; omega
        have hER := Lib.hid (hEr.out hbad)
        have hval' : decide ((256 : Int) < (value.size : Int)) = true := by simp; omega
        clear hEr hOk hch
        cases hhas : hasT T[k].props name with
        | true =>
          rw [hhas] at o0
          go_wp2_with fail
          exact bodyPost_ret (v := .tuple #[.agg #[.slice none 0 0], .int .i64 3]) (by simp [results, Try.results35, go_sem, HZ4.out]) rfl ⟨_, by rw [hER.out], by rw [hER.out]; exact TreeRow.nil _ _, HB4.out.setCell (p := ⟨w.heap.size + 1 + 1 + 1, 0, none⟩) (by simp; omega) _⟩
        | false =>
          rw [hhas] at o0
          by_cases h24 : T[k].props.length = 24
          · have h24' : ((T[k].props.length : Int) == 24) = true := by rw [h24]; rfl
            go_wp2_with fail
            exact bodyPost_ret (v := .tuple #[.agg #[.slice none 0 0], .int .i64 3]) (by simp [results, Try.results35, go_sem, HZ4.out]) rfl ⟨_, by rw [hER.out], by rw [hER.out]; exact TreeRow.nil _ _, HB4.out.setCell (p := ⟨w.heap.size + 1 + 1 + 1, 0, none⟩) (by simp; omega) _⟩
          · have h24' : ((T[k].props.length : Int) == 24) = false := by rw [beq_eq_false_iff_ne]; omega
            go_wp2_with fail
            exact bodyPost_ret (v := .tuple #[.agg #[.slice none 0 0], .int .i64 3]) (by simp [results, Try.results35, go_sem, HZ4.out]) rfl ⟨_, by rw [hER.out], by rw [hER.out]; exact TreeRow.nil _ _, HB4.out.setCell (p := ⟨w.heap.size + 1 + 1 + 1, 0, none⟩) (by simp; omega) _⟩
      · have hval' : decide ((256 : Int) < (value.size : Int)) = false := by simp; omega
        have hfp : T[k].props.length ≤ 24 := by
          have h := hlim
          unfold limitsT at h
          rw [Bool.and_eq_true] at h
          have := List.all_eq_true.1 h.2 _ (List.getElem_mem hk)
          unfold fitB at this
          rw [Bool.and_eq_true] at this
          exact of_decide_eq_true this.1
        cases hhas : hasT T[k].props name with
        | true =>
          rw [hhas] at o0
          have hgood : limitsT (setAt T k ⟨name, value⟩) = true := by rw [HLM.out, hhas]; simp; omega
          have hOK := Lib.hid (hOk.out hgood)
          clear hEr hOk
          go_wp2_with fail
          refine hch.out.mono ?_
          rintro e w5 ⟨v5, rfl, hr5, hb5⟩
          obtain ⟨sa, sc, rfl⟩ := tree_slice hr5
          have hZ5 := HZ3.out.keeps (Keeps.of_fresh hb5 (fun _ => False)) (fun e => e)
          have z5 := hZ5.cell 0
          have f5 := hZ5.free 0
          have r5 := (hr5.base (HB4.out.size)).set hZ5 (by decide) (by decide) 0 (.slice sa (T.set k ⟨T[k].parent, T[k].name, putT T[k].props ⟨name, value⟩⟩).length sc)
          have b5 := (HB4.out.trans (hb5.mono HB4.out.size)).setCell (p := ⟨w.heap.size + 1 + 1 + 1, 0, none⟩) (by simp; omega) (.slice sa (T.set k ⟨T[k].parent, T[k].name, putT T[k].props ⟨name, value⟩⟩).length sc)
          have c5 := (hZ5.set 0 (.slice sa (T.set k ⟨T[k].parent, T[k].name, putT T[k].props ⟨name, value⟩⟩).length sc)).cell 0
          have HF5 := Lib.hid (And.intro r5 (And.intro b5 c5))
          clear r5 b5 c5 hr5 hZ5 hb5 hch
          generalize (T.set k ⟨T[k].parent, T[k].name, putT T[k].props ⟨name, value⟩⟩) = T5 at *
          generalize hl5 : T5.length = n5 at *
          go_wp2_with fail
          exact bodyPost_ret (v := .tuple #[.agg #[.slice sa n5 sc], .int .i64 0]) (by simp [results, Try.results35, go_sem, HF5.out.2.2]) rfl ⟨_, by rw [hOK.out], by rw [hOK.out]; exact HF5.out.1, HF5.out.2.1⟩
        | false =>
          rw [hhas] at o0
          by_cases h24 : T[k].props.length = 24
          · have hbad : limitsT (setAt T k ⟨name, value⟩) = false := by rw [HLM.out, hhas, h24]; rfl
            have hER := Lib.hid (hEr.out hbad)
            have h24' : ((T[k].props.length : Int) == 24) = true := by rw [h24]; rfl
            clear hEr hOk hch
            go_wp2_with fail
            exact bodyPost_ret (v := .tuple #[.agg #[.slice none 0 0], .int .i64 3]) (by simp [results, Try.results35, go_sem, HZ4.out]) rfl ⟨_, by rw [hER.out], by rw [hER.out]; exact TreeRow.nil _ _, HB4.out.setCell (p := ⟨w.heap.size + 1 + 1 + 1, 0, none⟩) (by simp; omega) _⟩
          · have hgood : limitsT (setAt T k ⟨name, value⟩) = true := by rw [HLM.out, hhas]; simp; omega
            have hOK := Lib.hid (hOk.out hgood)
            have h24' : ((T[k].props.length : Int) == 24) = false := by rw [beq_eq_false_iff_ne]; omega
            clear hEr hOk
            go_wp2_with fail
            refine hch.out.mono ?_
            rintro e w5 ⟨v5, rfl, hr5, hb5⟩
            obtain ⟨sa, sc, rfl⟩ := tree_slice hr5
            have hZ5 := HZ3.out.keeps (Keeps.of_fresh hb5 (fun _ => False)) (fun e => e)
            have z5 := hZ5.cell 0
            have f5 := hZ5.free 0
            have r5 := (hr5.base (HB4.out.size)).set hZ5 (by decide) (by decide) 0 (.slice sa (T.set k ⟨T[k].parent, T[k].name, putT T[k].props ⟨name, value⟩⟩).length sc)
            have b5 := (HB4.out.trans (hb5.mono HB4.out.size)).setCell (p := ⟨w.heap.size + 1 + 1 + 1, 0, none⟩) (by simp; omega) (.slice sa (T.set k ⟨T[k].parent, T[k].name, putT T[k].props ⟨name, value⟩⟩).length sc)
            have c5 := (hZ5.set 0 (.slice sa (T.set k ⟨T[k].parent, T[k].name, putT T[k].props ⟨name, value⟩⟩).length sc)).cell 0
            have HF5 := Lib.hid (And.intro r5 (And.intro b5 c5))
            clear r5 b5 c5 hr5 hZ5 hb5 hch
            generalize (T.set k ⟨T[k].parent, T[k].name, putT T[k].props ⟨name, value⟩⟩) = T5 at *
            generalize hl5 : T5.length = n5 at *
            go_wp2_with fail
            exact bodyPost_ret (v := .tuple #[.agg #[.slice sa n5 sc], .int .i64 0]) (by simp [results, Try.results35, go_sem, HF5.out.2.2]) rfl ⟨_, by rw [hOK.out], by rw [hOK.out]; exact HF5.out.1, HF5.out.2.1⟩
end Go.Proofs.Ytjfkjnakmmkkiaa
