/- Contracts of package walk: one node more (region 2 of the visit; printed by gvis.py). | Contracts of package walk: siblings as numbers; the order of a walk, in plain Lean. | Contracts of package walk: the visit of a node and of what is below it. | Contracts of package walk: the visit. | Contracts of package walk: a child more in the row of its parent (region 6 of Tree; printed by gkid.py). -/
import Derived.Test.YtjfkjnakmmkkiaaGreatZ15
import Derived.Test.YtjfkjnakmmkkiaaGreatZ6
import Derived.Test.YtjfkjnakmmkkiaaGreatZ7
import Derived.Test.YtjfkjnakmmkkiaaGreatZ2
import Derived.Deep.LoopGhost

namespace Go.Proofs.YtjfkjnakmmkkiaaGreat
open Go.RowKit

noncomputable def visOps (n : Nat) : Array Oper := (regOps (Tryz.f140.body.getD .skip) n).getD #[]
theorem vis2 : inRow2 .any (visOps 2) = true := by kernel_rfl
theorem vis2a : apartB (visOps 2) = true := by kernel_rfl
theorem vis2n : (visOps 2).size = 19 := by kernel_rfl
theorem tree_own_lt {w : World} {base : Nat} {v : Value} {T : List NodeT} (h : TreeRow w base v T) {g : Nat} (e : v.ownBlock = some g) : g < w.heap.size := by
  obtain ⟨_, _, g2, _⟩ := h
  exact (g2.lt g e).2
/-- What holds throughout the region. -/
def Vis2S (base _ tB lB g o n cap i : Nat) (_ : Int) (nm : ByteArray) (ps : List PropT) (pa : Option Addr) (pc : Nat) (tv : Value) (_ : List NodeT) (W w : World) : Prop :=
  Holds w lB #[.slice (some ⟨g, o, none⟩) n cap] 23 ∧ w.cell? ⟨g, o + i * 3 + 1, none⟩ = some (.string nm) ∧ w.cell? ⟨g, o + i * 3 + 2, none⟩ = some (.slice pa ps.length pc) ∧ PropsIn (fun q => q < base) w (.slice pa ps.length pc) ps ∧ g < base ∧ Keeps (fun b => b = tB ∨ tv.ownBlock = some b) W w ∧ base ≤ w.heap.size
def Vis2X (tB H base : Nat) (tv : Value) (T : List NodeT) (l : Array Bool) (w : World) : Prop :=
  (l.getD 16 false = false → TreeSep H w base tv T) ∧ (l.getD 18 false = false → Holds w tB #[tv] 25)
theorem Vis2X.keep {tB H base : Nat} {tv : Value} {T : List NodeT} {l : Array Bool} {w w' : World} (h : Vis2X tB H base tv T l w) (i : Nat) (h1 : TreeSep H w base tv T → TreeSep H w' base tv T) (h2 : Holds w tB #[tv] 25 → Holds w' tB #[tv] 25) : Vis2X tB H base tv T (l.setIfInBounds i true) w' :=
  ⟨fun e => h1 (h.1 (listed_set e)), fun e => h2 (h.2 (listed_set e))⟩
def Vis2F (base H tB _ g o n cap i : Nat) (par : Int) (nm : ByteArray) (ps : List PropT) (pa : Option Addr) (pc : Nat) (tv : Value) (T : List NodeT) (j : Nat) : Value → World → Prop := match j with
  | 0 => fun u _ => u = .pointer (some ⟨tB, 0, none⟩)
  | 1 => fun u _ => u = tv
  | 2 => fun u _ => u = .int .i64 par
  | 3 => fun u _ => u = .slice (some ⟨g, o, none⟩) n cap
  | 4 => fun u _ => u = .int .i64 i
  | 5 => fun u _ => u = .pointer (some ⟨g, o + i * 3, none⟩)
  | 6 => fun u _ => u = .pointer (some ⟨g, o + i * 3 + 1, none⟩)
  | 7 => fun u _ => u = .string nm
  | 8 => fun u _ => u = .slice (some ⟨g, o, none⟩) n cap
  | 9 => fun u _ => u = .int .i64 i
  | 10 => fun u _ => u = .pointer (some ⟨g, o + i * 3, none⟩)
  | 11 => fun u _ => u = .pointer (some ⟨g, o + i * 3 + 2, none⟩)
  | 12 => fun u _ => u = .slice pa ps.length pc
  | 13 => fun u w => PropRow w H u ps
  | 14 => fun u w => ∃ pv, u = .agg #[.int .i64 par, .string nm, pv] ∧ PropRow w H pv ps
  | 15 => fun u w => ∃ N pv, u = .slice (some ⟨N, 0, none⟩) 1 1 ∧ Holds w N #[.int .i64 par, .string nm, pv] 76 ∧ PropRow w H pv ps ∧ N ≠ tB ∧ tv.ownBlock ≠ some N
  | 16 => fun u w => ∃ g' c', u = .slice (some ⟨g', 0, none⟩) (T.length + 1) c' ∧ TreeS w base (.slice (some ⟨g', 0, none⟩) (T.length + 1) c') (T ++ [(⟨par, nm, ps⟩ : NodeT)])
  | 17 => fun u _ => u = .pointer (some ⟨tB, 0, none⟩)
  | 18 => fun _ w => ∃ v', Holds w tB #[v'] 25 ∧ TreeS w base v' (T ++ [(⟨par, nm, ps⟩ : NodeT)])
  | _ => fun _ _ => True
section
variable {base H tB lB g o n cap i : Nat} {par : Int} {nm : ByteArray} {ps : List PropT} {pa : Option Addr} {pc : Nat} {tv : Value} {T : List NodeT}
theorem Vis2S.keeps {W w w' : World} {S : Nat → Prop} (h : Vis2S base H tB lB g o n cap i par nm ps pa pc tv T W w) (k : Keeps S w w') (hS : ∀ b, S b → base ≤ b ∧ b ≠ lB) (hS2 : ∀ b, b < W.heap.size → S b → b = tB ∨ tv.ownBlock = some b) : Vis2S base H tB lB g o n cap i par nm ps pa pc tv T W w' := by
  obtain ⟨h1, h2, h3, h4, h5, h6, h7⟩ := h
  have hg : ∀ q, q < base → ¬ S q := fun q hq e => by have := (hS q e).1; omega
  exact ⟨h1.keeps k (fun e => (hS _ e).2 rfl), (k.cell (p := ⟨g, o + i * 3 + 1, none⟩) (by show g < w.heap.size; omega) (hg g h5)).trans h2, (k.cell (p := ⟨g, o + i * 3 + 2, none⟩) (by show g < w.heap.size; omega) (hg g h5)).trans h3, h4.keeps k hg, h5, h6.trans k hS2, Nat.le_trans h7 k.size⟩
theorem Vis2S.new {W w w' : World} (h : Vis2S base H tB lB g o n cap i par nm ps pa pc tv T W w) (k : Below w.heap.size w w') (_ : base ≤ tB) : Vis2S base H tB lB g o n cap i par nm ps pa pc tv T W w' := h.keeps (Keeps.of_fresh k (fun _ => False)) (fun _ e => e.elim) (fun _ _ e => e.elim)
theorem Vis2S.grow {W w w' : World} (h : Vis2S base H tB lB g o n cap i par nm ps pa pc tv T W w) (k : w.grownBy w' tv.ownBlock) (_ : base ≤ tB) (h1 : ∀ q, tv.ownBlock = some q → base ≤ q) (h2 : tv.ownBlock ≠ some lB) (_ : tv.ownBlock ≠ some tB) : Vis2S base H tB lB g o n cap i par nm ps pa pc tv T W w' :=
  h.keeps (S := fun b => tv.ownBlock = some b) (Keeps.of_grown k (fun _ e => e)) (fun b e => ⟨h1 b e, fun x => h2 (by rw [← x]; exact e)⟩) (fun _ _ e => Or.inr e)
theorem Vis2S.set {W w : World} {x : Value} (h : Vis2S base H tB lB g o n cap i par nm ps pa pc tv T W w) (hz : Holds w tB #[x] 25) (hb : base ≤ tB) (v : Value) : Vis2S base H tB lB g o n cap i par nm ps pa pc tv T W (w.setCell ⟨tB, 0, none⟩ v) :=
  h.keeps (S := fun b => b = tB) ((Keeps.refl (· = tB) w).setCell (p := ⟨tB, 0, none⟩) (Or.inr rfl) v) (fun b e => ⟨by omega, fun e2 => by
    subst e e2
    have := hz.symm.trans h.1
    injection this with this; injection this with _ this; exact absurd this (by decide)⟩) (fun _ _ e => Or.inl e)
theorem Vis2F.new {w w' : World} {j : Nat} {u : Value} (h : Vis2F base H tB lB g o n cap i par nm ps pa pc tv T j u w) (k : Below w.heap.size w w') : Vis2F base H tB lB g o n cap i par nm ps pa pc tv T j u w' := by
  unfold Vis2F at *
  have kk := Keeps.of_fresh k (fun _ => False)
  split at h
  all_goals first
    | exact h
    | exact PropRow.new h k
    | (obtain ⟨pv, e, hp⟩ := h; exact ⟨pv, e, hp.new k⟩)
    | (obtain ⟨N, pv, e, hN, hp, r⟩ := h; exact ⟨N, pv, e, hN.keeps kk (fun e => e), hp.new k, r⟩)
    | (obtain ⟨g', c', e, hr⟩ := h; exact ⟨g', c', e, hr.new k⟩)
    | (obtain ⟨v', hz, hr⟩ := h; exact ⟨v', hz.keeps kk (fun e => e), hr.new k⟩)
theorem Vis2F.grow {w w' : World} {j : Nat} {u : Value} {xs : List Value} (h : Vis2F base H tB lB g o n cap i par nm ps pa pc tv T j u w) (k : w.grownBy w' tv.ownBlock) (h16 : j ≠ 16) (h18 : j ≠ 18) (_ : ∀ N, tv.ownBlock ≠ some N → tv.ownBlock ≠ some N) (g2 : w.ownsRow base 76 3 tv T.length xs) : Vis2F base H tB lB g o n cap i par nm ps pa pc tv T j u w' := by
  unfold Vis2F at *
  split at h
  all_goals first
    | exact absurd rfl h16
    | exact absurd rfl h18
    | exact h
    | exact PropRow.apart h g2 k (by decide)
    | (obtain ⟨pv, e, hp⟩ := h; exact ⟨pv, e, hp.apart g2 k (by decide)⟩)
    | (obtain ⟨N, pv, e, hN, hp, r1, r2⟩ := h; exact ⟨N, pv, e, hN.grown k r2, hp.apart g2 k (by decide), r1, r2⟩)
theorem Vis2F.set {w : World} {j : Nat} {u x v : Value} (h : Vis2F base H tB lB g o n cap i par nm ps pa pc tv T j u w) (hz : Holds w tB #[x] 25) (h18 : j ≠ 18) : Vis2F base H tB lB g o n cap i par nm ps pa pc tv T j u (w.setCell ⟨tB, 0, none⟩ v) := by
  unfold Vis2F at *
  split at h
  all_goals first
    | exact absurd rfl h18
    | exact h
    | exact PropRow.set h hz (by decide) 0 v
    | (obtain ⟨pv, e, hp⟩ := h; exact ⟨pv, e, hp.set hz (by decide) 0 v⟩)
    | (obtain ⟨N, pv, e, hN, hp, r1, r2⟩ := h; exact ⟨N, pv, e, hN.other _ _ r1, hp.set hz (by decide) 0 v, r1, r2⟩)
    | (obtain ⟨g', c', e, hr⟩ := h; exact ⟨g', c', e, hr.set hz (by decide) (by decide) 0 v⟩)
end

set_option maxHeartbeats 4000000 in
set_option maxRecDepth 100000 in
theorem vis_region2 {Q : Exit → Act → World → Prop} (base H tB lB g o n cap i : Nat) (par : Int) (nm : ByteArray) (ps : List PropT) (pa : Option Addr) (pc : Nat) (tv : Value) (T : List NodeT) (W w : World) (A : Act) (hsz : A.tmps.size = 57) (hbt : base ≤ tB) (hi : i < n) (_ : n ≤ 1000) (hTl : T.length ≤ 1000) (hps : ps.length ≤ 1000) (hnok : NodeOk ⟨par, nm, ps⟩)
    (a0 : A.tmps.getD 0 undef = .int .i64 i) (a1 : A.tmps.getD 1 undef = .int .i64 par) (a2 : A.tmps.getD 2 undef = .pointer (some ⟨tB, 0, none⟩)) (a4 : A.tmps.getD 4 undef = .pointer (some ⟨lB, 0, none⟩))
    (hS : Vis2S base H tB lB g o n cap i par nm ps pa pc tv T W w) (hZ : Holds w tB #[tv] 25) (hR : TreeSep H w base tv T) (hbH : base ≤ H) (hHW : H ≤ W.heap.size)
    (hQ : ∀ c w' v', SameBut (visOps 2) A c → Vis2S base H tB lB g o n cap i par nm ps pa pc tv T W w' → Holds w' tB #[v'] 25 → TreeS w' base v' (T ++ [(⟨par, nm, ps⟩ : NodeT)]) → Q .normal c w') :
    wpAny Tryz.prog .any (visOps 2) Q (visOps 2).size (Array.replicate (visOps 2).size false) A w := by
  refine wpAny_inv2 (fun l c wx => RInv (visOps 2) A (Vis2F base H tB lB g o n cap i par nm ps pa pc tv T) (Vis2S base H tB lB g o n cap i par nm ps pa pc tv T W) l c wx ∧ Vis2X tB H base tv T l wx) vis2 ?hend ?hstep _ _ _ _ (by simp) (by simp) ⟨RInv.start hS, fun _ => hR, fun _ => hZ⟩
  case hend =>
    intro l c wx hI hl
    obtain ⟨v', h1, h2⟩ := hI.1.2.2.2 18 (by rw [vis2n]; decide) (hl 18 (by rw [vis2n]; decide))
    exact hQ c wx v' hI.1.1 hI.1.2.1 h1 h2
  intro l c wx hI i' op ho hl hall K' hK'
  have hi13 : i' < 19 := by rw [← vis2n]; exact (Array.getElem?_eq_some_iff.1 ho).1
  simp only [visOps, regOps, Tryz.f140, Option.getD_some, reduceIte, Nat.reduceEqDiff] at ho
  have hS := hI.1.2.1
  have hii : (i : Int) < n := by omega
  have hii0 : (0 : Int) ≤ i := by omega
  have s0 := (hI.1.slot 0 (by kernel_rfl)).trans a0
  have s1 := (hI.1.slot 1 (by kernel_rfl)).trans a1
  have s2 := (hI.1.slot 2 (by kernel_rfl)).trans a2
  have s4 := (hI.1.slot 4 (by kernel_rfl)).trans a4
  simp only [Array.getD_eq_getD_getElem?] at s0 s1 s2 s4
  have hic : i' = 0 ∨ i' = 1 ∨ i' = 2 ∨ i' = 3 ∨ i' = 4 ∨ i' = 5 ∨ i' = 6 ∨ i' = 7 ∨ i' = 8 ∨ i' = 9 ∨ i' = 10 ∨ i' = 11 ∨ i' = 12 ∨ i' = 13 ∨ i' = 14 ∨ i' = 15 ∨ i' = 16 ∨ i' = 17 ∨ i' = 18 := by omega
  rcases hic with rfl | rfl | rfl | rfl | rfl | rfl | rfl | rfl | rfl | rfl | rfl | rfl | rfl | rfl | rfl | rfl | rfl | rfl | rfl
  all_goals cases ho
  · go_simp
    exact hK' _ _ ⟨hI.1.stepL vis2a 0 19 rfl (by rw [hsz]; decide) _ _ rfl hall hS (fun _ _ _ h => h) rfl, hI.2.keep 0 (fun h => h) (fun h => h)⟩
  · have e0 : c.tmps.getD 19 undef = .pointer (some ⟨tB, 0, none⟩) := hI.1.fact 0 19 rfl (listed hall 0 (by kernel_rfl))
    simp only [Array.getD_eq_getD_getElem?] at e0
    have u16 := hI.1.2.2.1.2.unlisted hl (j := 16) (by kernel_rfl)
    have u18 := hI.1.2.2.1.2.unlisted u16 (j := 18) (by kernel_rfl)
    have hX := (hI.2.2 u18).cell 0
    go_simp
    exact hK' _ _ ⟨hI.1.stepL vis2a 1 20 rfl (by rw [hsz]; decide) _ _ rfl hall hS (fun _ _ _ h => h) rfl, hI.2.keep 1 (fun h => h) (fun h => h)⟩
  · go_simp
    exact hK' _ _ ⟨hI.1.stepL vis2a 2 21 rfl (by rw [hsz]; decide) _ _ rfl hall hS (fun _ _ _ h => h) rfl, hI.2.keep 2 (fun h => h) (fun h => h)⟩
  · have hX := hS.1.cell 0
    go_simp
    exact hK' _ _ ⟨hI.1.stepL vis2a 3 22 rfl (by rw [hsz]; decide) _ _ rfl hall hS (fun _ _ _ h => h) rfl, hI.2.keep 3 (fun h => h) (fun h => h)⟩
  · go_simp
    exact hK' _ _ ⟨hI.1.stepL vis2a 4 23 rfl (by rw [hsz]; decide) _ _ rfl hall hS (fun _ _ _ h => h) rfl, hI.2.keep 4 (fun h => h) (fun h => h)⟩
  · have e3 : c.tmps.getD 22 undef = .slice (some ⟨g, o, none⟩) n cap := hI.1.fact 3 22 rfl (listed hall 3 (by kernel_rfl))
    simp only [Array.getD_eq_getD_getElem?] at e3
    have e4 : c.tmps.getD 23 undef = .int .i64 i := hI.1.fact 4 23 rfl (listed hall 4 (by kernel_rfl))
    simp only [Array.getD_eq_getD_getElem?] at e4
    go_simp
    exact hK' _ _ ⟨hI.1.stepL vis2a 5 24 rfl (by rw [hsz]; decide) _ _ rfl hall hS (fun _ _ _ h => h) rfl, hI.2.keep 5 (fun h => h) (fun h => h)⟩
  · have e5 : c.tmps.getD 24 undef = .pointer (some ⟨g, o + i * 3, none⟩) := hI.1.fact 5 24 rfl (listed hall 5 (by kernel_rfl))
    simp only [Array.getD_eq_getD_getElem?] at e5
    go_simp
    exact hK' _ _ ⟨hI.1.stepL vis2a 6 25 rfl (by rw [hsz]; decide) _ _ rfl hall hS (fun _ _ _ h => h) rfl, hI.2.keep 6 (fun h => h) (fun h => h)⟩
  · have e6 : c.tmps.getD 25 undef = .pointer (some ⟨g, o + i * 3 + 1, none⟩) := hI.1.fact 6 25 rfl (listed hall 6 (by kernel_rfl))
    simp only [Array.getD_eq_getD_getElem?] at e6
    have hX := hS.2.1
    go_simp
    exact hK' _ _ ⟨hI.1.stepL vis2a 7 26 rfl (by rw [hsz]; decide) _ _ rfl hall hS (fun _ _ _ h => h) rfl, hI.2.keep 7 (fun h => h) (fun h => h)⟩
  · have hX := hS.1.cell 0
    go_simp
    exact hK' _ _ ⟨hI.1.stepL vis2a 8 27 rfl (by rw [hsz]; decide) _ _ rfl hall hS (fun _ _ _ h => h) rfl, hI.2.keep 8 (fun h => h) (fun h => h)⟩
  · go_simp
    exact hK' _ _ ⟨hI.1.stepL vis2a 9 28 rfl (by rw [hsz]; decide) _ _ rfl hall hS (fun _ _ _ h => h) rfl, hI.2.keep 9 (fun h => h) (fun h => h)⟩
  · have e8 : c.tmps.getD 27 undef = .slice (some ⟨g, o, none⟩) n cap := hI.1.fact 8 27 rfl (listed hall 8 (by kernel_rfl))
    simp only [Array.getD_eq_getD_getElem?] at e8
    have e9 : c.tmps.getD 28 undef = .int .i64 i := hI.1.fact 9 28 rfl (listed hall 9 (by kernel_rfl))
    simp only [Array.getD_eq_getD_getElem?] at e9
    go_simp
    exact hK' _ _ ⟨hI.1.stepL vis2a 10 29 rfl (by rw [hsz]; decide) _ _ rfl hall hS (fun _ _ _ h => h) rfl, hI.2.keep 10 (fun h => h) (fun h => h)⟩
  · have e10 : c.tmps.getD 29 undef = .pointer (some ⟨g, o + i * 3, none⟩) := hI.1.fact 10 29 rfl (listed hall 10 (by kernel_rfl))
    simp only [Array.getD_eq_getD_getElem?] at e10
    go_simp
    exact hK' _ _ ⟨hI.1.stepL vis2a 11 30 rfl (by rw [hsz]; decide) _ _ rfl hall hS (fun _ _ _ h => h) rfl, hI.2.keep 11 (fun h => h) (fun h => h)⟩
  · have e11 : c.tmps.getD 30 undef = .pointer (some ⟨g, o + i * 3 + 2, none⟩) := hI.1.fact 11 30 rfl (listed hall 11 (by kernel_rfl))
    simp only [Array.getD_eq_getD_getElem?] at e11
    have hX := hS.2.2.1
    go_simp
    exact hK' _ _ ⟨hI.1.stepL vis2a 12 31 rfl (by rw [hsz]; decide) _ _ rfl hall hS (fun _ _ _ h => h) rfl, hI.2.keep 12 (fun h => h) (fun h => h)⟩
  · have e12 : c.tmps.getD 31 undef = .slice pa ps.length pc := hI.1.fact 12 31 rfl (listed hall 12 (by kernel_rfl))
    simp only [Array.getD_eq_getD_getElem?] at e12
    have u16 := hI.1.2.2.1.2.unlisted hl (j := 16) (by kernel_rfl)
    go_simp
    refine (props_Clone (fun q => q < base) _ ps wx hS.2.2.2.1 hps).mono ?_
    rintro e w2 ⟨v2, rfl, hr2, hb2⟩
    go_simp
    have hS2 := hS.new hb2 hbt
    exact hK' _ _ ⟨hI.1.stepL vis2a 13 32 rfl (by rw [hsz]; decide) _ _ rfl hall hS2 (fun j _ u h => h.new hb2) (hr2.base (Nat.le_trans hHW hS.2.2.2.2.2.1.size)), hI.2.keep 13 (fun h => h.new hb2) (fun h => h.keeps (Keeps.of_fresh hb2 (fun _ => False)) (fun e => e))⟩
  · have e2 : c.tmps.getD 21 undef = .int .i64 par := hI.1.fact 2 21 rfl (listed hall 2 (by kernel_rfl))
    simp only [Array.getD_eq_getD_getElem?] at e2
    have e7 : c.tmps.getD 26 undef = .string nm := hI.1.fact 7 26 rfl (listed hall 7 (by kernel_rfl))
    simp only [Array.getD_eq_getD_getElem?] at e7
    have hp : PropRow wx H (c.tmps.getD 32 undef) ps := hI.1.fact 13 32 rfl (listed hall 13 (by kernel_rfl))
    generalize hc32 : c.tmps.getD 32 undef = pv at hp
    obtain ⟨a2, c2, hpv⟩ := row_slice hp.1
    subst hpv
    simp only [Array.getD_eq_getD_getElem?] at hc32
    go_simp
    exact hK' _ _ ⟨hI.1.stepL vis2a 14 33 rfl (by rw [hsz]; decide) _ _ rfl hall hS (fun _ _ _ h => h) ⟨_, rfl, hp⟩, hI.2.keep 14 (fun h => h) (fun h => h)⟩
  · obtain ⟨pv, e14, hp⟩ : ∃ pv, c.tmps.getD 33 undef = .agg #[.int .i64 par, .string nm, pv] ∧ PropRow wx H pv ps := hI.1.fact 14 33 rfl (listed hall 14 (by kernel_rfl))
    simp only [Array.getD_eq_getD_getElem?] at e14
    have u16 := hI.1.2.2.1.2.unlisted hl (j := 16) (by kernel_rfl)
    have hT16 := hI.2.1 u16
    have u18 := hI.1.2.2.1.2.unlisted u16 (j := 18) (by kernel_rfl)
    have hZ18 := hI.2.2 u18
    have hzl := hZ18.lt
    obtain ⟨a2, c2, hpv⟩ := row_slice hp.1
    subst hpv
    go_simp
    have hb2 : Below wx.heap.size wx (wx.alloc (.cells #[.int .i64 par, .string nm, .slice a2 ps.length c2] 76)) := (Below.refl _ _).alloc (Nat.le_refl _) _
    have hS2 := hS.new hb2 hbt
    exact hK' _ _ ⟨hI.1.stepL vis2a 15 34 rfl (by rw [hsz]; decide) _ _ rfl hall hS2 (fun j _ u h => h.new hb2) ⟨_, _, rfl, Holds.new _ _ _, hp.new hb2, by omega, fun e => Nat.lt_irrefl _ (tree_own_lt hT16.row e)⟩, hI.2.keep 15 (fun h => h.new hb2) (fun h => h.keeps (Keeps.of_fresh hb2 (fun _ => False)) (fun e => e))⟩
  · have e1 : c.tmps.getD 20 undef = tv := hI.1.fact 1 20 rfl (listed hall 1 (by kernel_rfl))
    simp only [Array.getD_eq_getD_getElem?] at e1
    have f1 : c.tmps.getD 20 undef = tv := hI.1.fact 1 20 rfl (listed hall 1 (by kernel_rfl))
    obtain ⟨N, pv, e15, hN, hp, hNt, hNo⟩ : ∃ N pv, c.tmps.getD 34 undef = .slice (some ⟨N, 0, none⟩) 1 1 ∧ Holds wx N #[.int .i64 par, .string nm, pv] 76 ∧ PropRow wx H pv ps ∧ N ≠ tB ∧ tv.ownBlock ≠ some N := hI.1.fact 15 34 rfl (listed hall 15 (by kernel_rfl))
    obtain ⟨pvs, g1, g2, g3, g4, g5⟩ := hI.2.1 hl
    have u18 := hI.1.2.2.1.2.unlisted hl (j := 18) (by kernel_rfl)
    have hZ18 := hI.2.2 u18
    obtain ⟨a2, c2, hpv⟩ := row_slice hp.1
    subst hpv
    obtain ⟨i0, hi, hz0, hz1, hz2⟩ := info_parts infoNd
    obtain ⟨xa, xc, hxv⟩ := row_slice g2
    refine step_append_lies _ (by rfl) _ _ _ (by rfl) base 76 i0 _ 3 48 Tryz.underlying23 hi hz0 hz1 hz2 rfl (by omega) tv T.length (nodeCells T pvs) (by exact f1) g2 ⟨N, 0, none⟩ 1 1 [.int .i64 par, .string nm, .slice a2 ps.length c2] (by exact e15) (by rfl) (World.news_of_block (cs := #[.int .i64 par, .string nm, .slice a2 ps.length c2]) (t := 76) (fr := (0, 0)) hN) (by simp [Value.oneCell']) (by omega) (by unfold maxLen; omega) (by omega) hS.2.2.2.2.2.2 wx.heap.size rfl ?_
    intro gg cap2 w8 hown8 hgrow hat hlt8
    have hT8 := TreeSep.more (n := ⟨par, nm, ps⟩) g1 g2 g3 g4 g5 hbH hp hnok hown8 hgrow
    have hS2 := hS.grow hgrow hbt (fun q hq => (g2.lt q hq).1) (owns_ne_holds g2 hS.1 (by decide)) (owns_ne_holds g2 hZ18 (by decide))
    exact hK' _ _ ⟨hI.1.stepL vis2a 16 35 rfl (by rw [hsz]; decide) _ _ rfl hall hS2 (fun j hj u h => h.grow hgrow (yes_no hj hl) (yes_no hj u18) (fun N' hN' => hN') g2) ⟨_, _, rfl, hT8⟩, ⟨(fun h => absurd rfl (listed_at h (by rw [hI.1.2.2.1.1, vis2n]; decide))), fun h => (hI.2.2 (listed_set h)).grown hgrow (owns_ne_holds g2 hZ18 (by decide))⟩⟩
  · go_simp
    exact hK' _ _ ⟨hI.1.stepL vis2a 17 36 rfl (by rw [hsz]; decide) _ _ rfl hall hS (fun _ _ _ h => h) rfl, hI.2.keep 17 (fun h => h) (fun h => h)⟩
  · have e17 : c.tmps.getD 36 undef = .pointer (some ⟨tB, 0, none⟩) := hI.1.fact 17 36 rfl (listed hall 17 (by kernel_rfl))
    simp only [Array.getD_eq_getD_getElem?] at e17
    obtain ⟨g', c', e16, hr⟩ : ∃ g' c', c.tmps.getD 35 undef = .slice (some ⟨g', 0, none⟩) (T.length + 1) c' ∧ TreeS wx base (.slice (some ⟨g', 0, none⟩) (T.length + 1) c') (T ++ [(⟨par, nm, ps⟩ : NodeT)]) := hI.1.fact 16 35 rfl (listed hall 16 (by kernel_rfl))
    simp only [Array.getD_eq_getD_getElem?] at e16
    have hZ18 := hI.2.2 hl
    have n0 := hZ18.cell 0
    have n1 := hZ18.free 0
    go_simp
    have hS2 := hS.set hZ18 hbt (.slice (some ⟨g', 0, none⟩) (T.length + 1) c')
    exact hK' _ _ ⟨hI.1.stepNL 18 rfl _ rfl hall hS2 (fun j hj u h => h.set hZ18 (yes_no hj hl)) ⟨_, hZ18.set 0 _, hr.set hZ18 (by decide) (by decide) 0 _⟩, ⟨(fun h => absurd ((listed_set h).symm.trans (listed hall 16 (by kernel_rfl))) (by decide)), (fun h => absurd rfl (listed_at h (by rw [hI.1.2.2.1.1, vis2n]; decide)))⟩⟩
end Go.Proofs.YtjfkjnakmmkkiaaGreat

namespace Go.Proofs.YtjfkjnakmmkkiaaGreat
open Go.RowKit

/-- Siblings have names of their own. -/
def Dis (L : List NodeT) : Prop := ∀ x y, 0 < x → x < L.length → 0 < y → y < L.length → parOf L x = parOf L y → nameOf L x = nameOf L y → x = y
theorem kids_sorted {L : List NodeT} {p : Nat} (hD : Dis L) {ks : List Nat} (hp : ks.Perm (kidsS L p)) (hs : ks.Pairwise (fun a b => ltS (nameOf L b) (nameOf L a) = false)) : ks = kidsS L p := by
  have hk := (kidsF_spec L p L.length).2
  have hk2 : (kidsS L p).Pairwise (fun a b => ltS (nameOf L b) (nameOf L a) = false) := hk.imp (fun {a b} hab => by
    rcases hab with h | ⟨h, _⟩
    · exact ltS_asymm h
    · simp only [cmpN] at h; rw [h]; exact ltS_irrefl _)
  refine List.Perm.eq_of_pairwise (le := fun a b => ltS (nameOf L b) (nameOf L a) = false) (fun a b ha hb hab hba => ?_) hs hk2 hp
  have ha' := (kids_mem L p a).1 (hp.mem_iff.1 ha)
  have hb' := (kids_mem L p b).1 hb
  refine hD a b ha'.2.1 ha'.1 hb'.2.1 hb'.1 (by rw [ha'.2.2, hb'.2.2]) ?_
  rcases ltS_total hba with e | e
  · exact e
  · rw [e] at hab; cases hab
theorem idx_mid {l pre post : List Nat} {x : Nat} (h : l = pre ++ x :: post) (hn : l.Nodup) : l.idxOf x = pre.length := by
  subst h
  have := idx_at hn pre.length (by simp)
  simpa using this
theorem kid_not_in {L : List NodeT} (h : Par L) {f i k : Nat} (hi : i < L.length) (hk : k ∈ kidsS L i) (hf : L.length ≤ k + f) : i ∉ walkR L f k := by
  obtain ⟨k1, k2, k3⟩ := (kids_mem L i k).1 hk
  intro hm
  have := ((walkR_spec h f k k1 hf).1 i).1 hm
  have h2 := und_le h k1 i i (Nat.le_refl _) hi this.2
  have h3 := (h k k2 k1).2
  rw [k3] at h3; omega

theorem walk_SortN (R : Nat → Prop) (lb base : Nat) (v kv : Value) (L : List NodeT) (ks : List Nat) (w : World) (h0 : 0 < L.length) (hks : ∀ k ∈ ks, k < L.length) (hB : Holds w lb #[v] 23) (hL : NodesIn R w v L)
    (hrow : w.ownsRow base 3 1 kv ks.length (natCells ks)) (hR : ∀ g, kv.ownBlock = some g → ¬ R g ∧ g ≠ lb) (hlen : ks.length ≤ 1000) :
    Calls Tryz.prog 142 #[kv, .func (.func 143) #[] #[.pointer (some ⟨lb, 0, none⟩)]] w fun e w' =>
      e = .returned (.tuple #[]) ∧ ∃ ks' : List Nat, ks'.Perm ks ∧ ks'.Pairwise (fun a b => ltS (nameOf L b) (nameOf L a) = false) ∧ w'.ownsRow base 3 1 kv ks.length (natCells ks') ∧ Keeps (fun i => kv.ownBlock = some i) w w' := by
  obtain ⟨fs, rfl⟩ : ∃ fs : List (Fin L.length), fs.map Fin.val = ks := ⟨ks.pmap (fun k h => ⟨k, h⟩) hks, by simp [List.map_pmap]⟩
  have hc : ∀ l : List (Fin L.length), natCells (l.map Fin.val) = l.map (encK L.length) := fun l => by simp [natCells, encK, Function.comp_def]
  rw [hc, List.length_map] at hrow
  refine (walk_SortFunc R lb base v kv L fs w h0 hB hL hrow hR (by simpa using hlen)).mono ?_
  rintro e w' ⟨he, ks', h1, h2, h3, h4⟩
  refine ⟨he, ks'.map Fin.val, h1.map _, ?_, ?_, h4⟩
  · rw [List.pairwise_map]; exact h2
  · rw [hc, List.length_map]; exact h3
end Go.Proofs.YtjfkjnakmmkkiaaGreat

namespace Go.Proofs.YtjfkjnakmmkkiaaGreat
open Go.RowKit

def fnV (tB pB lB cB vB : Nat) : Value := .func (.func 140) #[] #[.pointer (some ⟨tB, 0, none⟩), .pointer (some ⟨pB, 0, none⟩), .pointer (some ⟨lB, 0, none⟩), .pointer (some ⟨cB, 0, none⟩), .pointer (some ⟨vB, 0, none⟩)]
def KOk (L : List NodeT) (K : Nat → List Nat) : Prop := ∀ p, p < L.length → (K p).Perm (kidsS L p)
def KRows (base : Nat) (cs : Array Value) (n : Nat) (K : Nat → List Nat) (w : World) : Prop := ∀ p, p < n → w.ownsRow base 3 1 (cs.getD p undef) (K p).length (natCells (K p))
def CsOk (cs : Array Value) (n gP : Nat) : Prop := cs.size = n ∧ (∀ p q, p < n → q < n → p ≠ q → ∀ g, (cs.getD p undef).ownBlock = some g → (cs.getD q undef).ownBlock ≠ some g) ∧ ∀ p g, p < n → (cs.getD p undef).ownBlock = some g → g ≠ gP
/-- What stays as it is while the nodes are visited. -/
def VisR (L : List NodeT) (base tB pB lB cB vB gP gC : Nat) (lv : Value) (cs : Array Value) (w : World) : Prop :=
  base ≤ w.heap.size ∧ Holds w lB #[lv] 23 ∧ NodesIn (fun g => g < base) w lv L ∧ Holds w pB #[.slice (some ⟨gP, 0, none⟩) L.length L.length] 22 ∧
    Holds w cB #[.slice (some ⟨gC, 0, none⟩) L.length L.length] 138 ∧ Holds w gC cs 22 ∧ Holds w vB #[fnV tB pB lB cB vB] 159
def PlaceAt (gP n : Nat) (pre : List Nat) (w : World) : Prop := ∃ l : List Nat, l.length = n ∧ Holds w gP (natArr l) 3 ∧ ∀ q (h : q < pre.length), l.getD pre[q] 0 = q
def VisW (L : List NodeT) (base tB pB lB cB vB gP gC : Nat) (lv : Value) (cs : Array Value) (pre : List Nat) (K : Nat → List Nat) (w : World) : Prop :=
  VisR L base tB pB lB cB vB gP gC lv cs w ∧ (∃ tv, Holds w tB #[tv] 25 ∧ TreeS w base tv (pre.map (moveT L))) ∧ PlaceAt gP L.length pre w ∧ KRows base cs L.length K w
theorem holds_ne {w : World} {b c : Nat} {xs ys : Array Value} {t u : TypeId} (h : Holds w b xs t) (k : Holds w c ys u) (hne : t ≠ u) : b ≠ c := by
  rintro rfl
  have := h.symm.trans k
  injection this with this; injection this with _ this; exact hne this
section
variable {L : List NodeT} {base tB pB lB cB vB gP gC : Nat} {lv : Value} {cs : Array Value} {w w' : World} {S : Nat → Prop}
/-- Kept where only blocks of other types turn. -/
theorem VisR.keeps (h : VisR L base tB pB lB cB vB gP gC lv cs w) (k : Keeps S w w') (hS : ∀ b, S b → base ≤ b ∧ (w.heap.size ≤ b ∨ ∃ xs t, Holds w b xs t ∧ t ≠ 23 ∧ t ≠ 22 ∧ t ≠ 138 ∧ t ≠ 159)) : VisR L base tB pB lB cB vB gP gC lv cs w' := by
  obtain ⟨h0, h1, h2, h3, h4, h5, h6⟩ := h
  have key : ∀ {b : Nat} {xs : Array Value} {t : TypeId}, Holds w b xs t → (t = 23 ∨ t = 22 ∨ t = 138 ∨ t = 159) → Holds w' b xs t := by
    intro b xs t hb ht
    refine hb.keeps k (fun e => ?_)
    rcases (hS b e).2 with h | ⟨ys, u, hu, n1, n2, n3, n4⟩
    · have := hb.lt; omega
    · have : t = u := by
        have := hb.symm.trans hu
        injection this with this; injection this with _ this
      subst this
      rcases ht with rfl | rfl | rfl | rfl
      · exact n1 rfl
      · exact n2 rfl
      · exact n3 rfl
      · exact n4 rfl
  exact ⟨Nat.le_trans h0 k.size, key h1 (.inl rfl), h2.keeps k (fun q hq e => by have := (hS q e).1; omega), key h3 (.inr (.inl rfl)), key h4 (.inr (.inr (.inl rfl))), key h5 (.inr (.inl rfl)), key h6 (.inr (.inr (.inr rfl)))⟩
theorem PlaceAt.keeps {n : Nat} {pre : List Nat} (h : PlaceAt gP n pre w) (k : Keeps S w w') (hS : ¬ S gP) : PlaceAt gP n pre w' := by
  obtain ⟨l, h1, h2, h3⟩ := h
  exact ⟨l, h1, h2.keeps k hS, h3⟩
theorem KRows.keeps {n : Nat} {K : Nat → List Nat} (h : KRows base cs n K w) (k : Keeps S w w') (hS : ∀ p g, p < n → (cs.getD p undef).ownBlock = some g → ¬ S g) : KRows base cs n K w' := fun p hp =>
  ownsRow_keeps (h p hp) k (fun g hg => hS p g hp hg)
theorem PlaceAt.put {n : Nat} {pre : List Nat} {i : Nat} (h : PlaceAt gP n pre w) (hi : i < n) (hn : i ∉ pre) : (∃ x : Int, w.cell? ⟨gP, i, none⟩ = some (.int .i64 x)) ∧ w.frozen? ⟨gP, i, none⟩ = false ∧ PlaceAt gP n (pre ++ [i]) (w.setCell ⟨gP, i, none⟩ (.int .i64 (pre.length : Int))) := by
  obtain ⟨l, h1, h2, h3⟩ := h
  refine ⟨⟨_, (h2.cell i).trans (natArr_at l i (by omega))⟩, h2.free i, l.set i pre.length, by simpa using h1, ?_, ?_⟩
  · rw [← natArr_set]; exact h2.set i _
  · intro q hq
    by_cases e : q < pre.length
    · rw [List.getElem_append_left e]
      have hne : i ≠ pre[q] := fun x => hn (by rw [x]; exact List.getElem_mem e)
      have := h3 q e
      simp only [List.getD_eq_getElem?_getD, List.getElem?_set_ne hne] at this ⊢
      exact this
    · have hq2 : q = pre.length := by simp at hq; omega
      subst hq2
      simp [List.getD_eq_getElem?_getD, h1, hi]
end
theorem tree_slice {w : World} {base : Nat} {v : Value} {T : List NodeT} (h : TreeRow w base v T) : ∃ a c, v = .slice a T.length c := by
  obtain ⟨_, _, g2, _⟩ := h; exact row_slice g2
theorem row_own_holds {w : World} {base : Nat} {e : TypeId} {size : Nat} {v : Value} {n : Nat} {xs : List Value} (h : w.ownsRow base e size v n xs) {g : Nat} (hg : v.ownBlock = some g) : base ≤ g ∧ ∃ cur, Holds w g cur e := by
  rcases h.2 with ⟨rfl, _⟩ | ⟨g', cap, cur, rfl, hb, hh, _⟩
  · cases hg
  · have : g' = g := Option.some.inj hg
    subst this
    exact ⟨hb, cur, hh⟩
theorem tree_own_holds {w : World} {base : Nat} {v : Value} {T : List NodeT} (h : TreeRow w base v T) {g : Nat} (hg : v.ownBlock = some g) : base ≤ g ∧ ∃ cur, Holds w g cur 76 := by
  obtain ⟨_, _, g2, _⟩ := h
  exact row_own_holds g2 hg
theorem nodes_block {R : Nat → Prop} {w : World} {g o n cap : Nat} {T : List NodeT} (h : NodesIn R w (.slice (some ⟨g, o, none⟩) n cap) T) (h0 : 0 < T.length) : R g := by
  obtain ⟨_, _, e, _, _, h3⟩ := h
  cases e
  obtain ⟨g', o', ea, hR, _⟩ := h3 h0
  cases ea
  exact hR
end Go.Proofs.YtjfkjnakmmkkiaaGreat

namespace Go.Proofs.YtjfkjnakmmkkiaaGreat
open Go.RowKit

def VisGoal (L : List NodeT) (base tB pB lB cB vB gP gC : Nat) (lv : Value) (cs : Array Value) (f : Nat) : Prop :=
  ∀ (i : Nat) (pre post : List Nat) (par : Int) (K : Nat → List Nat) (w : World), i < L.length → L.length ≤ i + f → ordT L = pre ++ walkR L f i ++ post → par = (moveT L i).parent → KOk L K → VisW L base tB pB lB cB vB gP gC lv cs pre K w →
    Calls Tryz.prog 140 #[.int .i64 i, .int .i64 par, .pointer (some ⟨tB, 0, none⟩), .pointer (some ⟨pB, 0, none⟩), .pointer (some ⟨lB, 0, none⟩), .pointer (some ⟨cB, 0, none⟩), .pointer (some ⟨vB, 0, none⟩)] w
      fun e w' => e = .returned (.tuple #[]) ∧ ∃ K', KOk L K' ∧ (∀ q, q ∉ walkR L f i → K' q = K q) ∧ VisW L base tB pB lB cB vB gP gC lv cs (pre ++ walkR L f i) K' w' ∧ Below base w w'

set_option maxRecDepth 100000 in
set_option maxHeartbeats 4000000 in
theorem walk_visit (L : List NodeT) (base tB pB lB cB vB gP gC : Nat) (lv : Value) (cs : Array Value) (hS : Shape L) (hD : Dis L) (hn : L.length ≤ 1000) (hpl : ∀ n ∈ L, n.props.length ≤ 1000) (hcs : CsOk cs L.length gP)
    (ht : base ≤ tB) (hp : base ≤ gP) : ∀ f, VisGoal L base tB pB lB cB vB gP gC lv cs f := by
  intro f
  induction f with
  | zero => intro i pre post par K w hi hf; omega
  | succ f ih =>
    intro i pre post par K w hi hf hord hpar hK hV
    have IH := Lib.hid ih
    clear ih
    obtain ⟨hR, ⟨tv, hZ, hT⟩, hP, hKR⟩ := hV
    obtain ⟨hN1, hN2⟩ := ordT_spec hS.2.1 hS.1
    have hnd := ltI_nodup hN2
    have hmem : i ∉ pre := by
      intro hm
      rw [hord, List.append_assoc] at hnd
      exact (List.nodup_append.1 hnd).2.2 i hm i (by simp [walkR]) rfl
    have hlen : pre.length < L.length := by
      have h1 := ordT_len hS.2.1 hS.1
      rw [hord] at h1
      simp [walkR] at h1; omega
    obtain ⟨⟨xq, q0⟩, qf, hP2⟩ := hP.put hi hmem
    obtain ⟨hbs, hLB, hLI, hPB, hCB, hCC, hVB⟩ := id hR
    obtain ⟨la, lc, rfl, -, -⟩ := hLI.shape
    obtain ⟨g, o, pa, pc, rfl, hg, c0, c1, c2, hpi, -, -, nb0, -, -⟩ := hLI.at i hi
    obtain ⟨ta, tc, rfl⟩ := tree_slice hT.row
    have HTL := Lib.hid (show (pre.map (moveT L)).length = pre.length by simp)
    have p0 := hPB.cell 0
    have t0 := hZ.cell 0
    have hi' : (i : Int) < L.length := by omega
    have hgb : g < base := nodes_block (R := fun g => g < base) hLI hS.1
    obtain ⟨lp, hlp1, hlp2, -⟩ := id hP
    have k1 : Keeps (· = gP) w (w.setCell ⟨gP, i, none⟩ (.int .i64 (pre.length : Int))) := (Keeps.refl (· = gP) w).setCell (p := ⟨gP, i, none⟩) (Or.inr rfl) _
    have hR1 := hR.keeps k1 (fun b e => by subst e; exact ⟨hp, Or.inr ⟨_, _, hlp2, by decide, by decide, by decide, by decide⟩⟩)
    have hZ1 := hZ.keeps k1 (fun e => holds_ne hZ hlp2 (by decide) e)
    have hT1 := hT.keeps k1 (fun b e => by subst e; exact Or.inr ⟨_, _, hlp2, by decide, by decide⟩)
    have hK1 := hKR.keeps k1 (fun p q hp hq e => hcs.2.2 p q hp hq e)
    have c1' := (k1.cell (p := ⟨g, o + i * 3 + 1, none⟩) (by show g < w.heap.size; omega) (by show ¬ g = gP; omega)).trans c1
    have c2' := (k1.cell (p := ⟨g, o + i * 3 + 2, none⟩) (by show g < w.heap.size; omega) (by show ¬ g = gP; omega)).trans c2
    have hpi1 := hpi.keeps k1 (fun q hq e => by subst e; omega)
    have hb1 : Below base w (w.setCell ⟨gP, i, none⟩ (.int .i64 (pre.length : Int))) := k1.below hbs (fun q hq e => by subst e; omega)
    have hps := hpl L[i] (List.getElem_mem hi)
    have hpb : -1 ≤ par ∧ par ≤ 1000 := by
      rw [hpar]; unfold moveT
      split
      · rw [hS.2.2]; exact ⟨by show (-1 : Int) ≤ -1; omega, by show (-1 : Int) ≤ 1000; omega⟩
      · have h1 := List.idxOf_le_length (a := parN L i) (l := ordT L)
        have h2 := ordT_len hS.2.1 hS.1
        show -1 ≤ (((ordT L).idxOf (parN L i) : Nat) : Int) ∧ (((ordT L).idxOf (parN L i) : Nat) : Int) ≤ 1000
        omega
    have hnok : NodeOk ⟨par, L[i].name, L[i].props⟩ := ⟨nb0, by show _ ≤ par; omega, by show par ≤ _; omega⟩
    have hmv : moveT L i = ⟨par, L[i].name, L[i].props⟩ := by rw [hpar]; unfold moveT; rw [nameOf_at hi, propsOf_at hi]
    have HMV := Lib.hid hmv
    have HPAR := Lib.hid hpar
    clear hmv hpar hP hKR hT hZ hR hLI hpi c1 c2 hlp2 hlp1 hPB hCB hCC hVB hLB
    go_enter Tryz.func140, Tryz.ntmps140
    go_wp2_with fail
    generalize hw1 : w.setCell ⟨gP, i, none⟩ (.int .i64 (pre.length : Int)) = w1 at *
    have hbs1 := hR1.1
    refine wp_region_any (by kernel_rfl) ?_
    refine wpAny_ops (ops' := visOps 2) (by kernel_rfl) ?_
    refine vis_region2 base w1.heap.size tB lB g o L.length lc i par L[i].name L[i].props pa pc _ (pre.map (moveT L)) w1.drew _ _ rfl ht hi hn (by rw [HTL.out]; omega) hps hnok rfl rfl rfl rfl ?_ (by exact hZ1) (by exact hT1.low.new (Below.refl _ _).drew) hbs1 (Nat.le_refl _) ?_
    · exact ⟨hR1.2.1, c1', c2', hpi1.keeps ((Keeps.refl (fun _ => False) w1).drew) (fun _ _ e => e), hgb, Keeps.refl _ _, hbs1⟩
    intro c w2 v2 hsb hS2 hZ2 hT2
    obtain ⟨x19, x20, x21, x22, x23, x24, x25, x26, x27, x28, x29, x30, x31, x32, x33, x34, x35, x36, hc⟩ := hsb.ex [19, 20, 21, 22, 23, 24, 25, 26, 27, 28, 29, 30, 31, 32, 33, 34, 35, 36] (by kernel_rfl)
    subst hc
    simp only [List.setIfInBounds_toArray, List.set_cons_zero, List.set_cons_succ]
    have k2 : Keeps (fun b => b = tB ∨ (Value.slice ta (pre.map (moveT L)).length tc).ownBlock = some b) w1 w2 := ((Keeps.refl _ w1).drew).trans hS2.2.2.2.2.2.1 (fun _ _ e => e)
    have hown : ∀ b, (b = tB ∨ (Value.slice ta (pre.map (moveT L)).length tc).ownBlock = some b) → base ≤ b ∧ ∃ xs t, Holds w1 b xs t ∧ (t = 25 ∨ t = 76) := by
      rintro b (rfl | e)
      · exact ⟨ht, _, _, hZ1, .inl rfl⟩
      · obtain ⟨q1, cur, q2⟩ := tree_own_holds hT1.row e
        exact ⟨q1, _, _, q2, .inr rfl⟩
    have hR2 := hR1.keeps k2 (fun b e => by
      obtain ⟨q1, xs, t, q2, q3⟩ := hown b e
      exact ⟨q1, Or.inr ⟨xs, t, q2, by rcases q3 with rfl | rfl <;> decide, by rcases q3 with rfl | rfl <;> decide, by rcases q3 with rfl | rfl <;> decide, by rcases q3 with rfl | rfl <;> decide⟩⟩)
    have hP3 := hP2.keeps k2 (fun e => by
      obtain ⟨_, xs, t, q2, q3⟩ := hown gP e
      obtain ⟨l, _, q4, _⟩ := hP2
      exact holds_ne q2 q4 (by rcases q3 with rfl | rfl <;> decide) rfl)
    have hK2 := hK1.keeps k2 (fun p b hp1 hb e => by
      obtain ⟨_, xs, t, q2, q3⟩ := hown b e
      obtain ⟨_, cur, q4⟩ := row_own_holds (hK1 p hp1) hb
      exact holds_ne q2 q4 (by rcases q3 with rfl | rfl <;> decide) rfl)
    have hT3 : TreeS w2 base v2 ((pre ++ [i]).map (moveT L)) := by rw [List.map_append, List.map_singleton, HMV.out]; exact hT2
    have hb2 : Below base w w2 := hb1.trans (k2.below hbs1 (fun b hb e => by have := (hown b e).1; omega))
    clear hsb hS2 hT2 hR1 hZ1 hT1 hP2 hK1 k2 hown hb1 k1 c1' c2' hpi1 hps hnok p0 t0 q0 qf hpb
    obtain ⟨hbs2, hLB2, hLI2, hPB2, hCB2, hCC2, hVB2⟩ := id hR2
    have d0 := hCB2.cell 0
    have hrow := hK2 i hi
    obtain ⟨ka, kc, hkv⟩ := row_slice hrow
    have hci : w2.cell? ⟨gC, i, none⟩ = some (cs.getD i undef) := (hCC2.cell i).trans (by simp [Array.getD_eq_getD_getElem?, hcs.1, hi])
    rw [hkv] at hci
    have HKV := Lib.hid hkv
    have hks : ∀ k ∈ K i, k < L.length := fun k hk => ((kids_mem L i k).1 ((hK i hi).mem_iff.1 hk)).1
    have hlen2 : (K i).length ≤ 1000 := by
      rw [(hK i hi).length_eq]
      have := kidsF_len L i L.length
      unfold kidsS; omega
    have hRR : ∀ q, (cs.getD i undef).ownBlock = some q → ¬ q < base ∧ q ≠ lB := fun q hq => by
      obtain ⟨q1, cur, q2⟩ := row_own_holds hrow hq
      exact ⟨by omega, holds_ne q2 hLB2 (by decide)⟩
    have hsort := walk_SortN (fun q => q < base) lB base _ _ L (K i) w2 hS.1 hks hLB2 hLI2 hrow hRR hlen2
    rw [hkv] at hsort
    have HSORT := Lib.hid hsort
    clear hkv hks hsort
    go_wp2_with fail
    refine (HSORT.out).mono ?_
    rintro e w3 ⟨rfl, ks, hp1, hp2, hrow3, hk3⟩
    have hkeq := kids_sorted hD (hp1.trans (hK i hi)) hp2
    subst hkeq
    have hk3' : ∀ b, (Value.slice ka (K i).length kc).ownBlock = some b → base ≤ b ∧ ∃ cur, Holds w2 b cur 3 := fun b e => row_own_holds (hK2 i hi) (by rw [HKV.out]; exact e)
    have hR3 := hR2.keeps hk3 (fun b e => by
      obtain ⟨q1, cur, q2⟩ := hk3' b e
      exact ⟨q1, Or.inr ⟨_, _, q2, by decide, by decide, by decide, by decide⟩⟩)
    have hZ3 := hZ2.keeps hk3 (fun e => by
      obtain ⟨_, cur, q2⟩ := hk3' tB e
      exact holds_ne q2 hZ2 (by decide) rfl)
    have hT4 := hT3.keeps hk3 (fun b e => by
      obtain ⟨_, cur, q2⟩ := hk3' b e
      exact Or.inr ⟨_, _, q2, by decide, by decide⟩)
    have hP4 := hP3.keeps hk3 (fun e => hcs.2.2 i gP hi (by rw [HKV.out]; exact e) rfl)
    have hK3 : KRows base cs L.length (fun q => if q = i then kidsS L i else K q) w3 := by
      intro p hp'
      by_cases e : p = i
      · subst e
        dsimp only
        rw [if_pos rfl]
        have hl := hp1.length_eq
        rw [HKV.out, hl]; exact hrow3
      · dsimp only
        rw [if_neg e]
        exact ownsRow_keeps (hK2 p hp') hk3 (fun b hb hb2 => hcs.2.1 p i hp' hi e b hb (by rw [HKV.out]; exact hb2))
    have hKO : KOk L (fun q => if q = i then kidsS L i else K q) := by
      intro p hp'
      by_cases e : p = i
      · subst e; simp
      · simp only [if_neg e]; exact hK p hp'
    have hb3 : Below base w w3 := hb2.trans (hk3.below hbs2 (fun b hb e => by have := (hk3' b e).1; omega))
    have hml : (kidsS L i).length = (K i).length := hp1.length_eq
    clear hrow3 hk3 hk3' hR2 hZ2 hT3 hP3 hK2 hb2 hp1 hp2 hLB2 hLI2 hPB2 hCB2 hCC2 hVB2 hci d0 hRR hrow HSORT
    obtain ⟨hbs3, hLB3, hLI3, hPB3, hCB3, hCC3, hVB3⟩ := id hR3
    have d0 := hCB3.cell 0
    have hci : w3.cell? ⟨gC, i, none⟩ = some (cs.getD i undef) := (hCC3.cell i).trans (by simp [Array.getD_eq_getD_getElem?, hcs.1, hi])
    rw [HKV.out] at hci
    have HML := Lib.hid hml
    generalize hm : (K i).length = m at *
    have HM := Lib.hid hm
    clear hm hml
    clear hLB3 hLI3 hPB3 hCB3 hCC3 hVB3
    go_wp2_with fail
    go_loopg [48] m (fun z x wr => ∃ (j : Nat) (K2 : Nat → List Nat), x = .int .i64 j ∧ j ≤ m ∧ m ≤ j + z ∧ KOk L K2 ∧ K2 i = kidsS L i ∧ (∀ q, q ∉ walkR L (f + 1) i → K2 q = K q) ∧ VisW L base tB pB lB cB vB gP gC (.slice (some ⟨g, o, none⟩) L.length lc) cs (pre ++ [i] ++ ((kidsS L i).take j).flatMap (walkR L f)) K2 wr ∧ Below base w wr)
    case atStart =>
      refine ⟨0, _, rfl, by omega, by omega, hKO, by simp, fun q hq => ?_, ?_, hb3⟩
      · rw [if_neg (fun e => hq (by subst e; simp [walkR]))]
      · simp only [List.take_zero, List.flatMap_nil, List.append_nil]
        exact ⟨hR3, ⟨_, hZ3, hT4⟩, hP4, hK3⟩
    case round =>
      clear hKO hR3 hZ3 hT4 hP4 hK3 hb3 hci d0
      obtain ⟨j, K2, rfl, hjm, hjz, hKO, hKi, hKq, hVV, hbb⟩ := hrel
      by_cases hj : j < m
      · have hj' : (j : Int) < m := by omega
        have hkl : j < (kidsS L i).length := by rw [HML.out]; exact hj
        obtain ⟨km1, km2, km3⟩ := (kids_mem L i _).1 (List.getElem_mem hkl)
        have hsplit : (kidsS L i) = (kidsS L i).take j ++ (kidsS L i)[j] :: (kidsS L i).drop (j + 1) := by
          rw [List.getElem_cons_drop, List.take_append_drop]
        have htake : (kidsS L i).take (j + 1) = (kidsS L i).take j ++ [(kidsS L i)[j]] := List.take_succ_eq_append_getElem hkl
        have hpk : L.length ≤ (kidsS L i)[j] + f := by
          have h1 := (hS.2.1 _ km2 km1).2
          rw [km3] at h1; omega
        have hni := kid_not_in hS.2.1 hi (List.getElem_mem hkl) hpk
        obtain ⟨hRr, -, -, hKr⟩ := id hVV
        have hrowr := hKr i hi
        rw [hKi] at hrowr
        obtain ⟨og, oc, hog, -, -⟩ := hrowr.form (by omega)
        rw [hog] at hrowr
        have hcr := hrowr.cellAt j (by omega)
        rw [show (natCells (kidsS L i))[j]? = some (.int .i64 ((kidsS L i)[j] : Int)) from by simp [natCells, hkl]] at hcr
        have hke := HKV.out.symm.trans hog
        simp only [Value.slice.injEq] at hke
        obtain ⟨rfl, -, -⟩ := hke
        have hvb := hRr.2.2.2.2.2.2.cell 0
        have hord' : ordT L = (pre ++ [i] ++ ((kidsS L i).take j).flatMap (walkR L f)) ++ walkR L f (kidsS L i)[j] ++ (((kidsS L i).drop (j + 1)).flatMap (walkR L f) ++ post) := by
          rw [hord]
          have hfm : (kidsS L i).flatMap (walkR L f) = ((kidsS L i).take j).flatMap (walkR L f) ++ (walkR L f (kidsS L i)[j] ++ ((kidsS L i).drop (j + 1)).flatMap (walkR L f)) := by
            rw [← List.flatMap_cons, ← List.flatMap_append, ← hsplit]
          show pre ++ (i :: (kidsS L i).flatMap (walkR L f)) ++ post = _
          rw [hfm]
          simp only [List.append_assoc, List.cons_append, List.nil_append]
        have hpar' : (pre.length : Int) = (moveT L (kidsS L i)[j]).parent := by
          unfold moveT
          rw [if_neg (by omega), kid_par km3, idx_mid (pre := pre) (post := (kidsS L i).flatMap (walkR L f) ++ post) (by rw [hord]; simp [walkR]) hnd]
        have hcall := IH.out (kidsS L i)[j] _ _ (pre.length : Int) K2 wr km1 hpk hord' hpar' hKO hVV
        have HC := Lib.hid hcall
        have hseq : pre ++ [i] ++ ((kidsS L i).take (j + 1)).flatMap (walkR L f) = (pre ++ [i] ++ ((kidsS L i).take j).flatMap (walkR L f)) ++ walkR L f (kidsS L i)[j] := by
          rw [htake, List.flatMap_append]; simp [List.append_assoc]
        have hmemk : ∀ q, q ∉ walkR L (f + 1) i → q ∉ walkR L f (kidsS L i)[j] := fun q hq hq2 => hq (by
          show q ∈ i :: (kidsS L i).flatMap (walkR L f)
          exact List.mem_cons_of_mem _ (List.mem_flatMap.2 ⟨_, List.getElem_mem hkl, hq2⟩))
        have HSEQ := Lib.hid hseq
        have HMK := Lib.hid hmemk
        clear hcall hseq hmemk hord' hpar' hsplit htake hKr hRr hrowr hog
        generalize (kidsS L i)[j] = kk at *
        unfold fnV at hvb
        go_wp2_with fail
        refine HC.out.mono ?_
        rintro e w5 ⟨rfl, K3, hKO3, hK3q, hVV3, hb5⟩
        have hfin : VisW L base tB pB lB cB vB gP gC (.slice (some ⟨g, o, none⟩) L.length lc) cs (pre ++ [i] ++ ((kidsS L i).take (j + 1)).flatMap (walkR L f)) K3 w5 ∧ Below base w w5 ∧ K3 i = kidsS L i ∧ ∀ q, q ∉ walkR L (f + 1) i → K3 q = K q :=
          ⟨by rw [HSEQ.out]; exact hVV3, hbb.trans hb5, (hK3q i hni).trans hKi, fun q hq => (hK3q q (HMK.out q hq)).trans (hKq q hq)⟩
        have HF := Lib.hid hfin
        have HKO3 := Lib.hid hKO3
        clear hfin hVV3 hK3q hKO3 hb5 hvb HC hcr
        go_wp2_with fail
        go_roundg (m - j - 1)
        case measure => omega
        case rel => exact ⟨j + 1, K3, by go_num, by omega, by omega, HKO3.out, HF.out.2.2.1, HF.out.2.2.2, HF.out.1, HF.out.2.1⟩
      · have hjm2 : j = m := by omega
        have hall : pre ++ [i] ++ ((kidsS L i).take j).flatMap (walkR L f) = pre ++ walkR L (f + 1) i := by
          rw [hjm2, ← HML.out, List.take_length]
          show _ = pre ++ (i :: (kidsS L i).flatMap (walkR L f))
          simp [List.append_assoc]
        rw [hall] at hVV
        have HVV := Lib.hid hVV
        have HKQ := Lib.hid hKq
        have HKO := Lib.hid hKO
        clear hVV hall hKq hKO hjm2
        go_wp2_with fail
        go_end0
        exact ⟨rfl, K2, HKO.out, HKQ.out, HVV.out, hbb⟩
end Go.Proofs.YtjfkjnakmmkkiaaGreat

namespace Go.Proofs.YtjfkjnakmmkkiaaGreat
open Go.RowKit

noncomputable def treOps (n : Nat) : Array Oper := (regOps (Tryz.f113.body.getD .skip) n).getD #[]
theorem kid6 : inRow2 .any (treOps 6) = true := by kernel_rfl
theorem kid6a : apartB (treOps 6) = true := by kernel_rfl
theorem kid6n : (treOps 6).size = 13 := by kernel_rfl
theorem infoI : (Tryz.prog.info? 3).map (fun i => (i.zero, i.size, i.bytes)) = some (some (.int .i64 0), 1, 8) := by kernel_rfl
def KidS (base cB nB gC n p _ _ : Nat) (nm : ByteArray) (pv kv : Value) (_ : Array Value) (_ : List Nat) (W w : World) : Prop :=
  Holds w cB #[.slice (some ⟨gC, 0, none⟩) n n] 138 ∧ Holds w nB #[.int .i64 p, .string nm, pv] 76 ∧ Keeps (fun b => b = gC ∨ kv.ownBlock = some b) W w ∧ base ≤ w.heap.size
def KidX (base gC : Nat) (kv : Value) (cs : Array Value) (xs : List Nat) (l : Array Bool) (w : World) : Prop :=
  (l.getD 10 false = false → w.ownsRow base 3 1 kv xs.length (natCells xs)) ∧ (l.getD 12 false = false → Holds w gC cs 22)
theorem KidX.keep {base gC : Nat} {kv : Value} {cs : Array Value} {xs : List Nat} {l : Array Bool} {w w' : World} (h : KidX base gC kv cs xs l w) (i : Nat) (h1 : w.ownsRow base 3 1 kv xs.length (natCells xs) → w'.ownsRow base 3 1 kv xs.length (natCells xs)) (h2 : Holds w gC cs 22 → Holds w' gC cs 22) : KidX base gC kv cs xs (l.setIfInBounds i true) w' :=
  ⟨fun e => h1 (h.1 (listed_set e)), fun e => h2 (h.2 (listed_set e))⟩
def KidF (base _ nB gC n p i H : Nat) (_ : ByteArray) (_ kv : Value) (cs : Array Value) (xs : List Nat) (j : Nat) : Value → World → Prop := match j with
  | 0 => fun u _ => u = .slice (some ⟨gC, 0, none⟩) n n
  | 1 => fun u _ => u = .pointer (some ⟨nB, 0, none⟩)
  | 2 => fun u _ => u = .int .i64 p
  | 3 => fun u _ => u = .slice (some ⟨gC, 0, none⟩) n n
  | 4 => fun u _ => u = .pointer (some ⟨nB, 0, none⟩)
  | 5 => fun u _ => u = .int .i64 p
  | 6 => fun u _ => u = .pointer (some ⟨gC, p, none⟩)
  | 7 => fun u _ => u = kv
  | 8 => fun u _ => u = .int .i64 i
  | 9 => fun u w => ∃ N, u = .slice (some ⟨N, 0, none⟩) 1 1 ∧ Holds w N #[.int .i64 i] 3 ∧ kv.ownBlock ≠ some N
  | 10 => fun u w => ∃ g' c', u = (.slice (some ⟨g', 0, none⟩) (xs.length + 1) c') ∧ w.ownsRow base 3 1 (.slice (some ⟨g', 0, none⟩) (xs.length + 1) c') (xs.length + 1) (natCells (xs ++ [i])) ∧ (kv.ownBlock = some g' ∨ H ≤ g')
  | 11 => fun u _ => u = .pointer (some ⟨gC, p, none⟩)
  | 12 => fun _ w => ∃ g' c', Holds w gC (cs.setIfInBounds p (.slice (some ⟨g', 0, none⟩) (xs.length + 1) c')) 22 ∧ w.ownsRow base 3 1 (.slice (some ⟨g', 0, none⟩) (xs.length + 1) c') (xs.length + 1) (natCells (xs ++ [i])) ∧ (kv.ownBlock = some g' ∨ H ≤ g')
  | _ => fun _ _ => True
section
variable {base cB nB gC n p i H : Nat} {nm : ByteArray} {pv kv : Value} {cs : Array Value} {xs : List Nat}
theorem KidS.new {W w w' : World} (h : KidS base cB nB gC n p i H nm pv kv cs xs W w) (k : Below w.heap.size w w') : KidS base cB nB gC n p i H nm pv kv cs xs W w' := by
  have kk := Keeps.of_fresh k (fun _ => False)
  exact ⟨h.1.keeps kk (fun e => e), h.2.1.keeps kk (fun e => e), h.2.2.1.trans kk (fun _ _ e => e.elim), Nat.le_trans h.2.2.2 k.size⟩
theorem KidS.grow {W w w' : World} (h : KidS base cB nB gC n p i H nm pv kv cs xs W w) (k : w.grownBy w' kv.ownBlock) (h1 : kv.ownBlock ≠ some cB) (h2 : kv.ownBlock ≠ some nB) : KidS base cB nB gC n p i H nm pv kv cs xs W w' := by
  have kk : Keeps (fun b => kv.ownBlock = some b) w w' := Keeps.of_grown k (fun _ e => e)
  exact ⟨h.1.keeps kk h1, h.2.1.keeps kk h2, h.2.2.1.trans kk (fun _ _ e => Or.inr e), Nat.le_trans h.2.2.2 kk.size⟩
theorem KidS.set {W w : World} (h : KidS base cB nB gC n p i H nm pv kv cs xs W w) (hz : Holds w gC cs 22) (v : Value) : KidS base cB nB gC n p i H nm pv kv cs xs W (w.setCell ⟨gC, p, none⟩ v) := by
  have kk : Keeps (· = gC) w (w.setCell ⟨gC, p, none⟩ v) := (Keeps.refl (· = gC) w).setCell (p := ⟨gC, p, none⟩) (Or.inr rfl) v
  exact ⟨h.1.keeps kk (holds_ne h.1 hz (by decide)), h.2.1.keeps kk (holds_ne h.2.1 hz (by decide)), h.2.2.1.trans kk (fun _ _ e => Or.inl e), Nat.le_trans h.2.2.2 kk.size⟩
theorem KidF.new {w w' : World} {j : Nat} {u : Value} (h : KidF base cB nB gC n p i H nm pv kv cs xs j u w) (k : Below w.heap.size w w') : KidF base cB nB gC n p i H nm pv kv cs xs j u w' := by
  unfold KidF at *
  have kk := Keeps.of_fresh k (fun _ => False)
  split at h
  all_goals first
    | exact h
    | (obtain ⟨N, e, hN, r⟩ := h; exact ⟨N, e, hN.keeps kk (fun e => e), r⟩)
    | (obtain ⟨g', c', e, hr, r⟩ := h; exact ⟨g', c', e, row_new hr k, r⟩)
    | (obtain ⟨g', c', hz, hr, r⟩ := h; exact ⟨g', c', hz.keeps kk (fun e => e), row_new hr k, r⟩)
theorem KidF.grow {w w' : World} {j : Nat} {u : Value} (h : KidF base cB nB gC n p i H nm pv kv cs xs j u w) (k : w.grownBy w' kv.ownBlock) (h10 : j ≠ 10) (h12 : j ≠ 12) : KidF base cB nB gC n p i H nm pv kv cs xs j u w' := by
  unfold KidF at *
  split at h
  all_goals first
    | exact absurd rfl h10
    | exact absurd rfl h12
    | exact h
    | (obtain ⟨N, e, hN, r⟩ := h; exact ⟨N, e, hN.grown k r, r⟩)
theorem KidF.set {w : World} {j : Nat} {u v : Value} (h : KidF base cB nB gC n p i H nm pv kv cs xs j u w) (hz : Holds w gC cs 22) (h12 : j ≠ 12) : KidF base cB nB gC n p i H nm pv kv cs xs j u (w.setCell ⟨gC, p, none⟩ v) := by
  unfold KidF at *
  split at h
  all_goals first
    | exact absurd rfl h12
    | exact h
    | (obtain ⟨N, e, hN, r⟩ := h; exact ⟨N, e, hN.other _ _ (holds_ne hN hz (by decide)), r⟩)
    | (obtain ⟨g', c', e, hr, r⟩ := h; exact ⟨g', c', e, row_set hr hz (by decide) p v, r⟩)
end

set_option maxHeartbeats 4000000 in
set_option maxRecDepth 100000 in
theorem kid_region6 {Q : Exit → Act → World → Prop} (base cB nB gC n p i H : Nat) (nm : ByteArray) (pv kv : Value) (cs : Array Value) (xs : List Nat) (W w : World) (A : Act) (hsz : A.tmps.size = 41) (hpn : p < n) (hxl : xs.length ≤ 1000) (hH : H ≤ W.heap.size) (hcp : cs[p]? = some kv)
    (a4 : A.tmps.getD 4 undef = .pointer (some ⟨cB, 0, none⟩)) (a5 : A.tmps.getD 5 undef = .int .i64 i) (a6 : A.tmps.getD 6 undef = .pointer (some ⟨nB, 0, none⟩))
    (hS : KidS base cB nB gC n p i H nm pv kv cs xs W w) (hZ : Holds w gC cs 22) (hR : w.ownsRow base 3 1 kv xs.length (natCells xs))
    (hQ : ∀ c w' g' c', SameBut (treOps 6) A c → KidS base cB nB gC n p i H nm pv kv cs xs W w' → Holds w' gC (cs.setIfInBounds p (.slice (some ⟨g', 0, none⟩) (xs.length + 1) c')) 22 → w'.ownsRow base 3 1 (.slice (some ⟨g', 0, none⟩) (xs.length + 1) c') (xs.length + 1) (natCells (xs ++ [i])) → (kv.ownBlock = some g' ∨ H ≤ g') → Q .normal c w') :
    wpAny Tryz.prog .any (treOps 6) Q (treOps 6).size (Array.replicate (treOps 6).size false) A w := by
  refine wpAny_inv2 (fun l c wx => RInv (treOps 6) A (KidF base cB nB gC n p i H nm pv kv cs xs) (KidS base cB nB gC n p i H nm pv kv cs xs W) l c wx ∧ KidX base gC kv cs xs l wx) kid6 ?hend ?hstep _ _ _ _ (by simp) (by simp) ⟨RInv.start hS, fun _ => hR, fun _ => hZ⟩
  case hend =>
    intro l c wx hI hl
    obtain ⟨g', c', h1, h2, h3⟩ := hI.1.2.2.2 12 (by rw [kid6n]; decide) (hl 12 (by rw [kid6n]; decide))
    exact hQ c wx g' c' hI.1.1 hI.1.2.1 h1 h2 h3
  intro l c wx hI i' op ho hl hall K' hK'
  have hi13 : i' < 13 := by rw [← kid6n]; exact (Array.getElem?_eq_some_iff.1 ho).1
  simp only [treOps, regOps, Tryz.f113, Option.getD_some, reduceIte, Nat.reduceEqDiff] at ho
  have hS := hI.1.2.1
  have hii : (p : Int) < n := by omega
  have hii0 : (0 : Int) ≤ p := by omega
  have s4 := (hI.1.slot 4 (by kernel_rfl)).trans a4
  have s5 := (hI.1.slot 5 (by kernel_rfl)).trans a5
  have s6 := (hI.1.slot 6 (by kernel_rfl)).trans a6
  simp only [Array.getD_eq_getD_getElem?] at s4 s5 s6
  have hic : i' = 0 ∨ i' = 1 ∨ i' = 2 ∨ i' = 3 ∨ i' = 4 ∨ i' = 5 ∨ i' = 6 ∨ i' = 7 ∨ i' = 8 ∨ i' = 9 ∨ i' = 10 ∨ i' = 11 ∨ i' = 12 := by omega
  rcases hic with rfl | rfl | rfl | rfl | rfl | rfl | rfl | rfl | rfl | rfl | rfl | rfl | rfl
  all_goals cases ho
  · have hX := hS.1.cell 0
    go_simp
    exact hK' _ _ ⟨hI.1.stepL kid6a 0 20 rfl (by rw [hsz]; decide) _ _ rfl hall hS (fun _ _ _ h => h) rfl, hI.2.keep 0 (fun h => h) (fun h => h)⟩
  · go_simp
    exact hK' _ _ ⟨hI.1.stepL kid6a 1 21 rfl (by rw [hsz]; decide) _ _ rfl hall hS (fun _ _ _ h => h) rfl, hI.2.keep 1 (fun h => h) (fun h => h)⟩
  · have e1 : c.tmps.getD 21 undef = .pointer (some ⟨nB, 0, none⟩) := hI.1.fact 1 21 rfl (listed hall 1 (by kernel_rfl))
    have f1 := e1
    simp only [Array.getD_eq_getD_getElem?] at e1
    have hX := hS.2.1.cell 0
    go_simp
    exact hK' _ _ ⟨hI.1.stepL kid6a 2 22 rfl (by rw [hsz]; decide) _ _ rfl hall hS (fun _ _ _ h => h) rfl, hI.2.keep 2 (fun h => h) (fun h => h)⟩
  · have hX := hS.1.cell 0
    go_simp
    exact hK' _ _ ⟨hI.1.stepL kid6a 3 23 rfl (by rw [hsz]; decide) _ _ rfl hall hS (fun _ _ _ h => h) rfl, hI.2.keep 3 (fun h => h) (fun h => h)⟩
  · go_simp
    exact hK' _ _ ⟨hI.1.stepL kid6a 4 24 rfl (by rw [hsz]; decide) _ _ rfl hall hS (fun _ _ _ h => h) rfl, hI.2.keep 4 (fun h => h) (fun h => h)⟩
  · have e4 : c.tmps.getD 24 undef = .pointer (some ⟨nB, 0, none⟩) := hI.1.fact 4 24 rfl (listed hall 4 (by kernel_rfl))
    have f4 := e4
    simp only [Array.getD_eq_getD_getElem?] at e4
    have hX := hS.2.1.cell 0
    go_simp
    exact hK' _ _ ⟨hI.1.stepL kid6a 5 25 rfl (by rw [hsz]; decide) _ _ rfl hall hS (fun _ _ _ h => h) rfl, hI.2.keep 5 (fun h => h) (fun h => h)⟩
  · have e3 : c.tmps.getD 23 undef = .slice (some ⟨gC, 0, none⟩) n n := hI.1.fact 3 23 rfl (listed hall 3 (by kernel_rfl))
    have f3 := e3
    simp only [Array.getD_eq_getD_getElem?] at e3
    have e5 : c.tmps.getD 25 undef = .int .i64 p := hI.1.fact 5 25 rfl (listed hall 5 (by kernel_rfl))
    have f5 := e5
    simp only [Array.getD_eq_getD_getElem?] at e5
    go_simp
    exact hK' _ _ ⟨hI.1.stepL kid6a 6 26 rfl (by rw [hsz]; decide) _ _ rfl hall hS (fun _ _ _ h => h) rfl, hI.2.keep 6 (fun h => h) (fun h => h)⟩
  · have e6 : c.tmps.getD 26 undef = .pointer (some ⟨gC, p, none⟩) := hI.1.fact 6 26 rfl (listed hall 6 (by kernel_rfl))
    have f6 := e6
    simp only [Array.getD_eq_getD_getElem?] at e6
    have u10 := hI.1.2.2.1.2.unlisted hl (j := 10) (by kernel_rfl)
    have u12 := hI.1.2.2.1.2.unlisted u10 (j := 12) (by kernel_rfl)
    have hX := (hI.2.2 u12).cell p
    rw [hcp] at hX
    go_simp
    exact hK' _ _ ⟨hI.1.stepL kid6a 7 27 rfl (by rw [hsz]; decide) _ _ rfl hall hS (fun _ _ _ h => h) rfl, hI.2.keep 7 (fun h => h) (fun h => h)⟩
  · go_simp
    exact hK' _ _ ⟨hI.1.stepL kid6a 8 28 rfl (by rw [hsz]; decide) _ _ rfl hall hS (fun _ _ _ h => h) rfl, hI.2.keep 8 (fun h => h) (fun h => h)⟩
  · have e8 : c.tmps.getD 28 undef = .int .i64 i := hI.1.fact 8 28 rfl (listed hall 8 (by kernel_rfl))
    have f8 := e8
    simp only [Array.getD_eq_getD_getElem?] at e8
    have u10 := hI.1.2.2.1.2.unlisted hl (j := 10) (by kernel_rfl)
    have hR10 := hI.2.1 u10
    go_simp
    have hb2 : Below wx.heap.size wx (wx.alloc (.cells #[.int .i64 i] 3)) := (Below.refl _ _).alloc (Nat.le_refl _) _
    have hS2 := hS.new hb2
    exact hK' _ _ ⟨hI.1.stepL kid6a 9 29 rfl (by rw [hsz]; decide) _ _ rfl hall hS2 (fun j _ u h => h.new hb2) ⟨_, rfl, Holds.new _ _ _, fun e => Nat.lt_irrefl _ (hR10.lt _ e).2⟩, hI.2.keep 9 (fun h => row_new h hb2) (fun h => h.keeps (Keeps.of_fresh hb2 (fun _ => False)) (fun e => e))⟩
  · have e7 : c.tmps.getD 27 undef = kv := hI.1.fact 7 27 rfl (listed hall 7 (by kernel_rfl))
    have f7 := e7
    simp only [Array.getD_eq_getD_getElem?] at e7
    obtain ⟨N, e9, hN, hNo⟩ : ∃ N, c.tmps.getD 29 undef = .slice (some ⟨N, 0, none⟩) 1 1 ∧ Holds wx N #[.int .i64 i] 3 ∧ kv.ownBlock ≠ some N := hI.1.fact 9 29 rfl (listed hall 9 (by kernel_rfl))
    have g2 := hI.2.1 hl
    have u12 := hI.1.2.2.1.2.unlisted hl (j := 12) (by kernel_rfl)
    have hZ := hI.2.2 u12
    obtain ⟨i0, hi, hz0, hz1, hz2⟩ := info_parts infoI
    have hHs := hS.2.2.1.size
    refine step_append_lies _ (by rfl) _ _ _ (by rfl) base 3 i0 _ 1 8 Tryz.underlying22 hi hz0 hz1 hz2 rfl (by omega) kv xs.length (natCells xs) (by exact f7) g2 ⟨N, 0, none⟩ 1 1 [.int .i64 i] (by exact e9) (by rfl) (World.news_of_block (cs := #[.int .i64 i]) (t := 3) (fr := (0, 0)) hN) (by simp [Value.oneCell']) (by omega) (by unfold maxLen; omega) (by omega) hS.2.2.2 wx.heap.size rfl ?_
    intro gg cap2 w8 hown8 hgrow hat hlt8
    have hS2 := hS.grow hgrow (owns_ne_holds g2 hS.1 (by decide)) (owns_ne_holds g2 hS.2.1 (by decide))
    exact hK' _ _ ⟨hI.1.stepL kid6a 10 30 rfl (by rw [hsz]; decide) _ _ rfl hall hS2 (fun j hj u h => h.grow hgrow (yes_no hj hl) (yes_no hj u12)) ⟨gg, cap2, rfl, (by simpa [natCells] using hown8), hat.imp id (fun e => by omega)⟩, ⟨(fun h => absurd rfl (listed_at h (by rw [hI.1.2.2.1.1, kid6n]; decide))), fun h => (hI.2.2 (listed_set h)).grown hgrow (owns_ne_holds g2 hZ (by decide))⟩⟩
  · have e0 : c.tmps.getD 20 undef = .slice (some ⟨gC, 0, none⟩) n n := hI.1.fact 0 20 rfl (listed hall 0 (by kernel_rfl))
    have f0 := e0
    simp only [Array.getD_eq_getD_getElem?] at e0
    have e2 : c.tmps.getD 22 undef = .int .i64 p := hI.1.fact 2 22 rfl (listed hall 2 (by kernel_rfl))
    have f2 := e2
    simp only [Array.getD_eq_getD_getElem?] at e2
    go_simp
    exact hK' _ _ ⟨hI.1.stepL kid6a 11 31 rfl (by rw [hsz]; decide) _ _ rfl hall hS (fun _ _ _ h => h) rfl, hI.2.keep 11 (fun h => h) (fun h => h)⟩
  · have e11 : c.tmps.getD 31 undef = .pointer (some ⟨gC, p, none⟩) := hI.1.fact 11 31 rfl (listed hall 11 (by kernel_rfl))
    have f11 := e11
    simp only [Array.getD_eq_getD_getElem?] at e11
    obtain ⟨g', c', e10, hr, hat⟩ : ∃ g' c', c.tmps.getD 30 undef = (.slice (some ⟨g', 0, none⟩) (xs.length + 1) c') ∧ wx.ownsRow base 3 1 (.slice (some ⟨g', 0, none⟩) (xs.length + 1) c') (xs.length + 1) (natCells (xs ++ [i])) ∧ (kv.ownBlock = some g' ∨ H ≤ g') := hI.1.fact 10 30 rfl (listed hall 10 (by kernel_rfl))
    simp only [Array.getD_eq_getD_getElem?] at e10
    have hZ := hI.2.2 hl
    have n0 := hZ.cell p
    rw [hcp] at n0
    have n1 := hZ.free p
    go_simp
    have hS2 := hS.set hZ (.slice (some ⟨g', 0, none⟩) (xs.length + 1) c')
    exact hK' _ _ ⟨hI.1.stepNL 12 rfl _ rfl hall hS2 (fun j hj u h => h.set hZ (yes_no hj hl)) ⟨g', c', hZ.set p _, row_set hr hZ (by decide) p _, hat⟩, ⟨(fun h => absurd ((listed_set h).symm.trans (listed hall 10 (by kernel_rfl))) (by decide)), (fun h => absurd rfl (listed_at h (by rw [hI.1.2.2.1.1, kid6n]; decide)))⟩⟩
end Go.Proofs.YtjfkjnakmmkkiaaGreat
