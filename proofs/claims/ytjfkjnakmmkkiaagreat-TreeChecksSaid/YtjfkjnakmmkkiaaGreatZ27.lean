/- The drawn region of TreeChecks that lists the trees (printed by gbl.py). | A drawn, guarded region of TreeChecks (printed by gck.py). -/
import Derived.Test.YtjfkjnakmmkkiaaGreatZ17
import Derived.Test.YtjfkjnakmmkkiaaGreatZ28
import Derived.Test.YtjfkjnakmmkkiaaGreatZ6
import Derived.Test.YtjfkjnakmmkkiaaGreatZ2

namespace Go.Proofs.YtjfkjnakmmkkiaaGreat
open Go.RowKit

noncomputable def blcOps (n : Nat) : Array Oper := (regOps (Tryz.f4.body.getD .skip) n).getD #[]
theorem blcR : inRow2 .any (blcOps 5) = true := by kernel_rfl
theorem blcRa : apartB (blcOps 5) = true := by kernel_rfl
theorem blcRn : (blcOps 5).size = 13 := by kernel_rfl
def BlcF (b N M : Nat) (xa : Option Addr) (xc : Nat) (X : List NodeT) (aa : Option Addr) (ac : Nat) (A : List NodeT) (j : Nat) : Value → World → Prop := match j with
  | 0 => fun u _ => u = .agg #[.slice xa X.length xc]
  | 1 => fun u _ => u = .agg #[.slice aa A.length ac]
  | 2 => fun u _ => u = .pointer (some ⟨b, 0, none⟩)
  | 3 => fun u _ => u = .agg #[.slice aa A.length ac]
  | 4 => fun u w => BentV b (N + 1) (M + 1) u w
  | 5 => fun u _ => u = .pointer (some ⟨b, 0, none⟩)
  | 6 => fun u _ => u = .pointer (some ⟨b, 0, none⟩)
  | 7 => fun u _ => u = .agg #[.slice aa A.length ac]
  | 8 => fun u w => BentV b (N + 1) (M + 1) u w
  | 9 => fun u w => BentV b (N + 2) (M + 2) u w
  | 10 => fun u w => TreesF b 4 u w
  | 11 => fun u _ => u = .int .i64 4
  | 12 => fun u _ => u = .int .i64 0
  | _ => fun _ _ => True
theorem BlcF.keep {b N M : Nat} {xa : Option Addr} {xc : Nat} {X : List NodeT} {aa : Option Addr} {ac : Nat} {A : List NodeT} {j : Nat} {u : Value} {w w' : World} (h : BlcF b N M xa xc X aa ac A j u w) (k : Keeps (fun i => i = b) w w') : BlcF b N M xa xc X aa ac A j u w' := by
  unfold BlcF at *
  split at h
  all_goals first
    | exact h
    | exact BentV.keep h k
    | exact TreesF.keep h k

set_option maxHeartbeats 4000000 in
set_option maxRecDepth 100000 in
theorem blc_region {Q : Exit → Act → World → Prop} (B b N M Xb Ab : Nat) (xa : Option Addr) (xc : Nat) (X : List NodeT) (aa : Option Addr) (ac : Nat) (A : List NodeT) (W w : World) (Ac : Act) (hsz : Ac.tmps.size = 197) (hAl : A.length ≤ N) (hAm : ∀ n ∈ A, n.props.length ≤ M) (hN : N ≤ 800) (hM : M ≤ 800)
    (hXW : Holds W Xb #[.slice xa X.length xc] 25) (hAW : Holds W Ab #[.slice aa A.length ac] 25) (hxb : Xb ≠ b) (hab : Ab ≠ b) (hXN : NodesIn (fun g => g ≠ b) W (.slice xa X.length xc) X) (hAN : NodesIn (fun g => g ≠ b) W (.slice aa A.length ac) A)
    (ax : Ac.tmps.getD 6 undef = .pointer (some ⟨Xb, 0, none⟩)) (aa' : Ac.tmps.getD 12 undef = .pointer (some ⟨Ab, 0, none⟩)) (at_ : Ac.tmps.getD 11 undef = .pointer (some ⟨b, 0, none⟩))
    (hS : Tape B w b ∧ Keeps (fun i => i = b) W w)
    (hQ : ∀ c w', SameBut (blcOps 5) Ac c → Tape B w' b → Keeps (fun i => i = b) W w' → TreesF b 4 (c.tmps.getD 54 undef) w' → c.tmps.getD 55 undef = .int .i64 4 → c.tmps.getD 56 undef = .int .i64 0 → Q .normal c w') :
    wpAny Tryz.prog .any (blcOps 5) Q (blcOps 5).size (Array.replicate (blcOps 5).size false) Ac w := by
  refine wpAny_inv2 (fun l c wx => RInv (blcOps 5) Ac (BlcF b N M xa xc X aa ac A) (fun wx => Tape B wx b ∧ Keeps (fun i => i = b) W wx) l c wx) blcR ?hend ?hstep _ _ _ _ (by simp) (by simp) (RInv.start hS)
  case hend =>
    intro l c wx hI hl
    have hh : ∀ k, k < 13 → l.getD k false = true := fun k hk => hl k (by rw [blcRn]; exact hk)
    exact hQ c wx hI.1 hI.2.1.1 hI.2.1.2 (hI.fact 10 54 rfl (hh 10 (by decide))) (hI.fact 11 55 rfl (hh 11 (by decide))) (hI.fact 12 56 rfl (hh 12 (by decide)))
  intro l c wx hI i' op ho _ hall K' hK'
  have hi : i' < 13 := by rw [← blcRn]; exact (Array.getElem?_eq_some_iff.1 ho).1
  simp only [blcOps, regOps, Tryz.f4, Option.getD_some, reduceIte, Nat.reduceEqDiff] at ho
  have hS := hI.2.1
  have sx := (hI.slot 6 (by kernel_rfl)).trans ax
  have sa := (hI.slot 12 (by kernel_rfl)).trans aa'
  have st := (hI.slot 11 (by kernel_rfl)).trans at_
  simp only [Array.getD_eq_getD_getElem?] at sx sa st
  have hic : i' = 0 ∨ i' = 1 ∨ i' = 2 ∨ i' = 3 ∨ i' = 4 ∨ i' = 5 ∨ i' = 6 ∨ i' = 7 ∨ i' = 8 ∨ i' = 9 ∨ i' = 10 ∨ i' = 11 ∨ i' = 12 := by omega
  rcases hic with rfl | rfl | rfl | rfl | rfl | rfl | rfl | rfl | rfl | rfl | rfl | rfl | rfl
  all_goals cases ho
  · have c0 := (hXW.keeps hS.2 hxb).cell 0
    have cl := (hXW.keeps hS.2 hxb).lt
    go_simp
    exact hK' _ _ (hI.step blcRa 0 44 rfl (by rw [hsz]; decide) _ _ rfl hall hS (fun _ _ h => h) rfl)
  · have c0 := (hAW.keeps hS.2 hab).cell 0
    have cl := (hAW.keeps hS.2 hab).lt
    go_simp
    exact hK' _ _ (hI.step blcRa 1 45 rfl (by rw [hsz]; decide) _ _ rfl hall hS (fun _ _ h => h) rfl)
  · go_simp
    exact hK' _ _ (hI.step blcRa 2 46 rfl (by rw [hsz]; decide) _ _ rfl hall hS (fun _ _ h => h) rfl)
  · have c0 := (hAW.keeps hS.2 hab).cell 0
    have cl := (hAW.keeps hS.2 hab).lt
    go_simp
    exact hK' _ _ (hI.step blcRa 3 47 rfl (by rw [hsz]; decide) _ _ rfl hall hS (fun _ _ h => h) rfl)
  · have e1 : (c.tmps.getD 46 undef) = .pointer (some ⟨b, 0, none⟩) := hI.fact 2 46 rfl (listed hall 2 (by kernel_rfl))
    simp only [Array.getD_eq_getD_getElem?] at e1
    have e2 : (c.tmps.getD 47 undef) = .agg #[.slice aa A.length ac] := hI.fact 3 47 rfl (listed hall 3 (by kernel_rfl))
    simp only [Array.getD_eq_getD_getElem?] at e2
    go_simp
    refine (grow_Bent B b (N + 1) (M + 1) (fun g => g ≠ b) _ A wx hS.1 (hAN.keeps hS.2 (fun _ h e => h e)) (by omega) (by omega) (fun n hn => by have := hAm n hn; omega) (by omega)).mono ?_
    rintro e w2 ⟨v2, D, rfl, hr2, hl2, hm2, ht2, k2⟩
    obtain ⟨da, dc, rfl⟩ := tree_slice hr2
    go_simp
    have hS2 : Tape B w2 b ∧ Keeps (fun i => i = b) W w2 := ⟨ht2, hS.2.trans k2 (fun _ _ e => e)⟩
    have hbl := hS.1.lt
    exact hK' _ _ (hI.step blcRa 4 48 rfl (by rw [hsz]; decide) _ _ rfl hall hS2 (fun _ _ h => BlcF.keep h k2) ⟨da, dc, D, rfl, hr2.in.mono (fun g h e => by subst e; omega), hl2, hm2⟩)
  · go_simp
    exact hK' _ _ (hI.step blcRa 5 49 rfl (by rw [hsz]; decide) _ _ rfl hall hS (fun _ _ h => h) rfl)
  · go_simp
    exact hK' _ _ (hI.step blcRa 6 50 rfl (by rw [hsz]; decide) _ _ rfl hall hS (fun _ _ h => h) rfl)
  · have c0 := (hAW.keeps hS.2 hab).cell 0
    have cl := (hAW.keeps hS.2 hab).lt
    go_simp
    exact hK' _ _ (hI.step blcRa 7 51 rfl (by rw [hsz]; decide) _ _ rfl hall hS (fun _ _ h => h) rfl)
  · have e1 : (c.tmps.getD 50 undef) = .pointer (some ⟨b, 0, none⟩) := hI.fact 6 50 rfl (listed hall 6 (by kernel_rfl))
    simp only [Array.getD_eq_getD_getElem?] at e1
    have e2 : (c.tmps.getD 51 undef) = .agg #[.slice aa A.length ac] := hI.fact 7 51 rfl (listed hall 7 (by kernel_rfl))
    simp only [Array.getD_eq_getD_getElem?] at e2
    go_simp
    refine (grow_Bent B b (N + 1) (M + 1) (fun g => g ≠ b) _ A wx hS.1 (hAN.keeps hS.2 (fun _ h e => h e)) (by omega) (by omega) (fun n hn => by have := hAm n hn; omega) (by omega)).mono ?_
    rintro e w2 ⟨v2, D, rfl, hr2, hl2, hm2, ht2, k2⟩
    obtain ⟨da, dc, rfl⟩ := tree_slice hr2
    go_simp
    have hS2 : Tape B w2 b ∧ Keeps (fun i => i = b) W w2 := ⟨ht2, hS.2.trans k2 (fun _ _ e => e)⟩
    have hbl := hS.1.lt
    exact hK' _ _ (hI.step blcRa 8 52 rfl (by rw [hsz]; decide) _ _ rfl hall hS2 (fun _ _ h => BlcF.keep h k2) ⟨da, dc, D, rfl, hr2.in.mono (fun g h e => by subst e; omega), hl2, hm2⟩)
  · have e1 : (c.tmps.getD 49 undef) = .pointer (some ⟨b, 0, none⟩) := hI.fact 5 49 rfl (listed hall 5 (by kernel_rfl))
    simp only [Array.getD_eq_getD_getElem?] at e1
    obtain ⟨ba8, bc8, D8, e2, hn8, hl8, hm8⟩ : BentV b (N + 1) (M + 1) (c.tmps.getD 52 undef) wx := hI.fact 8 52 rfl (listed hall 8 (by kernel_rfl))
    simp only [Array.getD_eq_getD_getElem?] at e2
    go_simp
    refine (grow_Bent B b (N + 2) (M + 2) (fun g => g ≠ b) _ D8 wx hS.1 hn8 (by omega) (by omega) (fun n hn => by have := hm8 n hn; omega) (by omega)).mono ?_
    rintro e w2 ⟨v2, D, rfl, hr2, hl2, hm2, ht2, k2⟩
    obtain ⟨da, dc, rfl⟩ := tree_slice hr2
    go_simp
    have hS2 : Tape B w2 b ∧ Keeps (fun i => i = b) W w2 := ⟨ht2, hS.2.trans k2 (fun _ _ e => e)⟩
    have hbl := hS.1.lt
    exact hK' _ _ (hI.step blcRa 9 53 rfl (by rw [hsz]; decide) _ _ rfl hall hS2 (fun _ _ h => BlcF.keep h k2) ⟨da, dc, D, rfl, hr2.in.mono (fun g h e => by subst e; omega), hl2, hm2⟩)
  · have e0 : (c.tmps.getD 44 undef) = .agg #[.slice xa X.length xc] := hI.fact 0 44 rfl (listed hall 0 (by kernel_rfl))
    simp only [Array.getD_eq_getD_getElem?] at e0
    have e1 : (c.tmps.getD 45 undef) = .agg #[.slice aa A.length ac] := hI.fact 1 45 rfl (listed hall 1 (by kernel_rfl))
    simp only [Array.getD_eq_getD_getElem?] at e1
    obtain ⟨ba4, bc4, D4, e2, hn4, hl4, hm4⟩ : BentV b (N + 1) (M + 1) (c.tmps.getD 48 undef) wx := hI.fact 4 48 rfl (listed hall 4 (by kernel_rfl))
    simp only [Array.getD_eq_getD_getElem?] at e2
    obtain ⟨ba9, bc9, D9, e3, hn9, hl9, hm9⟩ : BentV b (N + 2) (M + 2) (c.tmps.getD 53 undef) wx := hI.fact 9 53 rfl (listed hall 9 (by kernel_rfl))
    simp only [Array.getD_eq_getD_getElem?] at e3
    go_simp
    have hb2 : Below wx.heap.size wx (wx.alloc (.cells #[.slice xa X.length xc, .slice aa A.length ac, .slice ba4 D4.length bc4, .slice ba9 D9.length bc9] 25)) := (Below.refl _ _).alloc (Nat.le_refl _) _
    have k2 := Keeps.of_fresh hb2 (fun i => i = b)
    have hS2 : Tape B (wx.alloc (.cells #[.slice xa X.length xc, .slice aa A.length ac, .slice ba4 D4.length bc4, .slice ba9 D9.length bc9] 25)) b ∧ Keeps (fun i => i = b) W (wx.alloc (.cells #[.slice xa X.length xc, .slice aa A.length ac, .slice ba4 D4.length bc4, .slice ba9 D9.length bc9] 25)) := ⟨hS.1.new hb2, hS.2.trans k2 (fun _ _ e => e)⟩
    have hL := Holds.new wx #[.slice xa X.length xc, .slice aa A.length ac, .slice ba4 D4.length bc4, .slice ba9 D9.length bc9] 25
    have hbl := hS.1.lt
    have hT : TreesF b 4 (.slice (some ⟨wx.heap.size, 0, none⟩) 4 4) (wx.alloc (.cells #[.slice xa X.length xc, .slice aa A.length ac, .slice ba4 D4.length bc4, .slice ba9 D9.length bc9] 25)) := ⟨wx.heap.size, rfl, by omega, fun j hj => by
      have hj2 : j = 0 ∨ j = 1 ∨ j = 2 ∨ j = 3 := by omega
      rcases hj2 with rfl | rfl | rfl | rfl
      · exact ⟨_, _, _, hL.cell 0, hXN.keeps hS2.2 (fun _ h e => h e)⟩
      · exact ⟨_, _, _, hL.cell 1, hAN.keeps hS2.2 (fun _ h e => h e)⟩
      · exact ⟨_, _, _, hL.cell 2, hn4.keeps k2 (fun _ h e => h e)⟩
      · exact ⟨_, _, _, hL.cell 3, hn9.keeps k2 (fun _ h e => h e)⟩⟩
    exact hK' _ _ (hI.step blcRa 10 54 rfl (by rw [hsz]; decide) _ _ rfl hall hS2 (fun _ _ h => BlcF.keep h k2) hT)
  · obtain ⟨lg10, e0, hg10⟩ : TreesF b 4 (c.tmps.getD 54 undef) wx := hI.fact 10 54 rfl (listed hall 10 (by kernel_rfl))
    simp only [Array.getD_eq_getD_getElem?] at e0
    go_simp
    exact hK' _ _ (hI.step blcRa 11 55 rfl (by rw [hsz]; decide) _ _ rfl hall hS (fun _ _ h => h) rfl)
  · go_simp
    exact hK' _ _ (hI.step blcRa 12 56 rfl (by rw [hsz]; decide) _ _ rfl hall hS (fun _ _ h => h) rfl)
end Go.Proofs.YtjfkjnakmmkkiaaGreat

namespace Go.Proofs.YtjfkjnakmmkkiaaGreat
open Go.RowKit

/-- Equality as a truth value. -/
def eqB (X Y : List NodeT) : Bool := decide (X = Y)
theorem eqB_of {b : Bool} {X Y : List NodeT} (h : b = true ↔ X = Y) : b = eqB X Y := by
  unfold eqB
  cases b with
  | true => symm; rw [decide_eq_true_iff]; exact h.1 rfl
  | false => symm; rw [decide_eq_false_iff_not]; exact fun e => by have := h.2 e; cases this
theorem guard_val {c : Act} {d : Nat} {b : Bool} (h : c.tmps.getD d undef = .bool b) : c.tmps[d]? = some (.bool b) := by
  rw [Array.getD_eq_getD_getElem?] at h
  cases hx : c.tmps[d]? with
  | none => rw [hx] at h; cases h
  | some v => rw [hx] at h; rw [show v = .bool b from h]
noncomputable def ckaOps (n : Nat) : Array Oper := (regOps (Tryz.f4.body.getD .skip) n).getD #[]
theorem ckaR : inRow2 .any (ckaOps 8) = true := by kernel_rfl
theorem ckaRa : apartB (ckaOps 8) = true := by kernel_rfl
theorem ckaRn : (ckaOps 8).size = 23 := by kernel_rfl
def CkaF (_ _ _ : Nat) (xa : Option Addr) (xc : Nat) (X : List NodeT) (aa : Option Addr) (ac : Nat) (A : List NodeT) (ra : Option Addr) (rc : Nat) (R : List NodeT) (j : Nat) : Value → World → Prop := match j with
  | 0 => fun u _ => u = .agg #[.slice xa X.length xc]
  | 1 => fun u _ => u = .int .i64 (checkT X)
  | 2 => fun u _ => u = .agg #[.slice xa X.length xc]
  | 3 => fun u _ => u = .int .i64 (checkT X)
  | 4 => fun u _ => u = .bool false
  | 5 => fun u _ => u = .bool false
  | 6 => fun u _ => u = .agg #[.slice xa X.length xc]
  | 7 => fun u _ => u = .agg #[.slice aa A.length ac]
  | 8 => fun u _ => u = .bool (eqB X A)
  | 9 => fun u _ => u = .agg #[.slice xa X.length xc]
  | 10 => fun u _ => u = .agg #[.slice aa A.length ac]
  | 11 => fun u _ => u = .bool (eqB X A)
  | 12 => fun u _ => u = .bool false
  | 13 => fun u _ => u = .bool false
  | 14 => fun u _ => u = .bool false
  | 15 => fun u _ => u = .agg #[.slice ra R.length rc]
  | 16 => fun u _ => u = .agg #[.slice xa X.length xc]
  | 17 => fun u _ => u = .bool (eqB R X)
  | 18 => fun u _ => u = .agg #[.slice ra R.length rc]
  | 19 => fun u _ => u = .agg #[.slice xa X.length xc]
  | 20 => fun u _ => u = .bool (eqB R X)
  | 21 => fun u _ => u = .bool false
  | 22 => fun u _ => u = .bool false
  | _ => fun _ _ => True
theorem CkaF.new {Xb Ab Rb : Nat} {xa : Option Addr} {xc : Nat} {X : List NodeT} {aa : Option Addr} {ac : Nat} {A : List NodeT} {ra : Option Addr} {rc : Nat} {R : List NodeT} {j : Nat} {u : Value} {w w' : World} (h : CkaF Xb Ab Rb xa xc X aa ac A ra rc R j u w) (_ : Below w.heap.size w w') : CkaF Xb Ab Rb xa xc X aa ac A ra rc R j u w' := by
  unfold CkaF at *
  split at h
  all_goals first
    | exact h

set_option maxHeartbeats 4000000 in
set_option maxRecDepth 100000 in
theorem cka_region {Q : Exit → Act → World → Prop} (Xb Ab Rb : Nat) (xa : Option Addr) (xc : Nat) (X : List NodeT) (aa : Option Addr) (ac : Nat) (A : List NodeT) (ra : Option Addr) (rc : Nat) (R : List NodeT) (W w : World) (Ac : Act) (hsz : Ac.tmps.size = 197)
    (RRX : Nat → Prop) (hXW : Holds W Xb #[.slice xa X.length xc] 25) (hXN : NodesIn RRX W (.slice xa X.length xc) X) (aX : Ac.tmps.getD 14 undef = .pointer (some ⟨Xb, 0, none⟩))
    (RRA : Nat → Prop) (hAW : Holds W Ab #[.slice aa A.length ac] 25) (hAN : NodesIn RRA W (.slice aa A.length ac) A) (aA : Ac.tmps.getD 12 undef = .pointer (some ⟨Ab, 0, none⟩))
    (RRR : Nat → Prop) (hRW : Holds W Rb #[.slice ra R.length rc] 25) (hRN : NodesIn RRR W (.slice ra R.length rc) R) (aR : Ac.tmps.getD 6 undef = .pointer (some ⟨Rb, 0, none⟩))
    (hS : Below W.heap.size W w) (hQ : ∀ c w', SameBut (ckaOps 8) Ac c → Below W.heap.size W w' → c.tmps.getD 82 undef = .bool false → Q .normal c w') :
    wpAny Tryz.prog .any (ckaOps 8) Q (ckaOps 8).size (Array.replicate (ckaOps 8).size false) Ac w := by
  refine wpAny_inv2 (fun l c wx => RInv (ckaOps 8) Ac (CkaF Xb Ab Rb xa xc X aa ac A ra rc R) (fun wx => Below W.heap.size W wx) l c wx) ckaR (fun l c wx hI hl => hQ c wx hI.1 hI.2.1 (hI.fact 22 82 rfl (hl 22 (by rw [ckaRn]; decide)))) ?hstep _ _ _ _ (by simp) (by simp) (RInv.start hS)
  intro l c wx hI i' op ho _ hall K' hK'
  have hi : i' < 23 := by rw [← ckaRn]; exact (Array.getElem?_eq_some_iff.1 ho).1
  simp only [ckaOps, regOps, Tryz.f4, Option.getD_some, reduceIte, Nat.reduceEqDiff] at ho
  have hS := hI.2.1
  have sX := (hI.slot 14 (by kernel_rfl)).trans aX
  have sA := (hI.slot 12 (by kernel_rfl)).trans aA
  have sR := (hI.slot 6 (by kernel_rfl)).trans aR
  simp only [Array.getD_eq_getD_getElem?] at sX sA sR
  have hd5 : (ckaOps 8)[5]?.bind (fun x => x.dst) = some 65 := by kernel_rfl
  have hd14 : (ckaOps 8)[14]?.bind (fun x => x.dst) = some 74 := by kernel_rfl
  have hic : i' = 0 ∨ i' = 1 ∨ i' = 2 ∨ i' = 3 ∨ i' = 4 ∨ i' = 5 ∨ i' = 6 ∨ i' = 7 ∨ i' = 8 ∨ i' = 9 ∨ i' = 10 ∨ i' = 11 ∨ i' = 12 ∨ i' = 13 ∨ i' = 14 ∨ i' = 15 ∨ i' = 16 ∨ i' = 17 ∨ i' = 18 ∨ i' = 19 ∨ i' = 20 ∨ i' = 21 ∨ i' = 22 := by omega
  rcases hic with rfl | rfl | rfl | rfl | rfl | rfl | rfl | rfl | rfl | rfl | rfl | rfl | rfl | rfl | rfl | rfl | rfl | rfl | rfl | rfl | rfl | rfl | rfl
  all_goals cases ho
  · have c0 := (hXW.keeps (Keeps.of_fresh hS (fun _ => False)) (fun e => e)).cell 0
    have cl := (hXW.keeps (Keeps.of_fresh hS (fun _ => False)) (fun e => e)).lt
    go_simp
    exact hK' _ _ (hI.step ckaRa 0 60 rfl (by rw [hsz]; decide) _ _ rfl hall hS (fun _ _ h => h) rfl)
  · have e0 : c.tmps.getD 60 undef = .agg #[.slice xa X.length xc] := hI.fact 0 60 rfl (listed hall 0 (by kernel_rfl))
    simp only [Array.getD_eq_getD_getElem?] at e0
    go_simp
    refine (tree_Check _ _ X wx (hXN.new hS)).mono ?_
    rintro e w2 ⟨rfl, hb2⟩
    go_simp
    have hS2 : Below W.heap.size W w2 := hS.trans (hb2.mono hS.size)
    exact hK' _ _ (hI.step ckaRa 1 61 rfl (by rw [hsz]; decide) _ _ rfl hall hS2 (fun _ _ h => CkaF.new h hb2) rfl)
  · have c0 := (hXW.keeps (Keeps.of_fresh hS (fun _ => False)) (fun e => e)).cell 0
    have cl := (hXW.keeps (Keeps.of_fresh hS (fun _ => False)) (fun e => e)).lt
    go_simp
    exact hK' _ _ (hI.step ckaRa 2 62 rfl (by rw [hsz]; decide) _ _ rfl hall hS (fun _ _ h => h) rfl)
  · have e2 : c.tmps.getD 62 undef = .agg #[.slice xa X.length xc] := hI.fact 2 62 rfl (listed hall 2 (by kernel_rfl))
    simp only [Array.getD_eq_getD_getElem?] at e2
    go_simp
    refine (ref3_Check _ _ X wx (hXN.new hS)).mono ?_
    rintro e w2 ⟨rfl, hb2⟩
    go_simp
    have hS2 : Below W.heap.size W w2 := hS.trans (hb2.mono hS.size)
    exact hK' _ _ (hI.step ckaRa 3 63 rfl (by rw [hsz]; decide) _ _ rfl hall hS2 (fun _ _ h => CkaF.new h hb2) rfl)
  · have e1 : c.tmps.getD 61 undef = .int .i64 (checkT X) := hI.fact 1 61 rfl (listed hall 1 (by kernel_rfl))
    simp only [Array.getD_eq_getD_getElem?] at e1
    have e3 : c.tmps.getD 63 undef = .int .i64 (checkT X) := hI.fact 3 63 rfl (listed hall 3 (by kernel_rfl))
    simp only [Array.getD_eq_getD_getElem?] at e3
    have hbn : ∀ x : Int, (x != x) = false := fun x => by simp
    have hbs : ∀ x : ByteArray, (x.toList == x.toList) = true := fun x => by simp
    have hbb : ∀ x : Bool, (x != x) = false := fun x => by simp
    go_simp
    exact hK' _ _ (hI.step ckaRa 4 64 rfl (by rw [hsz]; decide) _ _ rfl hall hS (fun _ _ h => h) rfl)
  · have e4 : c.tmps.getD 64 undef = .bool false := hI.fact 4 64 rfl (listed hall 4 (by kernel_rfl))
    simp only [Array.getD_eq_getD_getElem?] at e4
    go_simp
    exact hK' _ _ (hI.step ckaRa 5 65 rfl (by rw [hsz]; decide) _ _ rfl hall hS (fun _ _ h => h) rfl)
  · have g0 : c.tmps[65]? = some (.bool false) := guard_val (hI.fact 5 65 rfl (listed hall 5 (by kernel_rfl)))
    have c0 := (hXW.keeps (Keeps.of_fresh hS (fun _ => False)) (fun e => e)).cell 0
    have cl := (hXW.keeps (Keeps.of_fresh hS (fun _ => False)) (fun e => e)).lt
    go_simp
    try rw [if_pos (by rw [hd5]; simp only [Option.bind_some, g0])]
    exact hK' _ _ (hI.step ckaRa 6 66 rfl (by rw [hsz]; decide) _ _ rfl hall hS (fun _ _ h => h) rfl)
  · have g0 : c.tmps[65]? = some (.bool false) := guard_val (hI.fact 5 65 rfl (listed hall 5 (by kernel_rfl)))
    have c0 := (hAW.keeps (Keeps.of_fresh hS (fun _ => False)) (fun e => e)).cell 0
    have cl := (hAW.keeps (Keeps.of_fresh hS (fun _ => False)) (fun e => e)).lt
    go_simp
    try rw [if_pos (by rw [hd5]; simp only [Option.bind_some, g0])]
    exact hK' _ _ (hI.step ckaRa 7 67 rfl (by rw [hsz]; decide) _ _ rfl hall hS (fun _ _ h => h) rfl)
  · have g0 : c.tmps[65]? = some (.bool false) := guard_val (hI.fact 5 65 rfl (listed hall 5 (by kernel_rfl)))
    have e6 : c.tmps.getD 66 undef = .agg #[.slice xa X.length xc] := hI.fact 6 66 rfl (listed hall 6 (by kernel_rfl))
    simp only [Array.getD_eq_getD_getElem?] at e6
    have e7 : c.tmps.getD 67 undef = .agg #[.slice aa A.length ac] := hI.fact 7 67 rfl (listed hall 7 (by kernel_rfl))
    simp only [Array.getD_eq_getD_getElem?] at e7
    go_simp
    try rw [if_pos (by rw [hd5]; simp only [Option.bind_some, g0])]
    refine (tree_Same _ _ _ _ X A wx (hXN.new hS) (hAN.new hS)).mono ?_
    rintro e w2 ⟨b, rfl, hbi, hb2⟩
    obtain rfl : b = eqB X A := eqB_of hbi
    go_simp
    try rw [if_pos (by rw [hd5]; simp only [Option.bind_some, g0])]
    have hS2 : Below W.heap.size W w2 := hS.trans (hb2.mono hS.size)
    exact hK' _ _ (hI.step ckaRa 8 68 rfl (by rw [hsz]; decide) _ _ rfl hall hS2 (fun _ _ h => CkaF.new h hb2) rfl)
  · have g0 : c.tmps[65]? = some (.bool false) := guard_val (hI.fact 5 65 rfl (listed hall 5 (by kernel_rfl)))
    have c0 := (hXW.keeps (Keeps.of_fresh hS (fun _ => False)) (fun e => e)).cell 0
    have cl := (hXW.keeps (Keeps.of_fresh hS (fun _ => False)) (fun e => e)).lt
    go_simp
    try rw [if_pos (by rw [hd5]; simp only [Option.bind_some, g0])]
    exact hK' _ _ (hI.step ckaRa 9 69 rfl (by rw [hsz]; decide) _ _ rfl hall hS (fun _ _ h => h) rfl)
  · have g0 : c.tmps[65]? = some (.bool false) := guard_val (hI.fact 5 65 rfl (listed hall 5 (by kernel_rfl)))
    have c0 := (hAW.keeps (Keeps.of_fresh hS (fun _ => False)) (fun e => e)).cell 0
    have cl := (hAW.keeps (Keeps.of_fresh hS (fun _ => False)) (fun e => e)).lt
    go_simp
    try rw [if_pos (by rw [hd5]; simp only [Option.bind_some, g0])]
    exact hK' _ _ (hI.step ckaRa 10 70 rfl (by rw [hsz]; decide) _ _ rfl hall hS (fun _ _ h => h) rfl)
  · have g0 : c.tmps[65]? = some (.bool false) := guard_val (hI.fact 5 65 rfl (listed hall 5 (by kernel_rfl)))
    have e9 : c.tmps.getD 69 undef = .agg #[.slice xa X.length xc] := hI.fact 9 69 rfl (listed hall 9 (by kernel_rfl))
    simp only [Array.getD_eq_getD_getElem?] at e9
    have e10 : c.tmps.getD 70 undef = .agg #[.slice aa A.length ac] := hI.fact 10 70 rfl (listed hall 10 (by kernel_rfl))
    simp only [Array.getD_eq_getD_getElem?] at e10
    go_simp
    try rw [if_pos (by rw [hd5]; simp only [Option.bind_some, g0])]
    refine (ref3_Same _ _ _ _ X A wx (hXN.new hS) (hAN.new hS)).mono ?_
    rintro e w2 ⟨b, rfl, hbi, hb2⟩
    obtain rfl : b = eqB X A := eqB_of hbi
    go_simp
    try rw [if_pos (by rw [hd5]; simp only [Option.bind_some, g0])]
    have hS2 : Below W.heap.size W w2 := hS.trans (hb2.mono hS.size)
    exact hK' _ _ (hI.step ckaRa 11 71 rfl (by rw [hsz]; decide) _ _ rfl hall hS2 (fun _ _ h => CkaF.new h hb2) rfl)
  · have g0 : c.tmps[65]? = some (.bool false) := guard_val (hI.fact 5 65 rfl (listed hall 5 (by kernel_rfl)))
    have e8 : c.tmps.getD 68 undef = .bool (eqB X A) := hI.fact 8 68 rfl (listed hall 8 (by kernel_rfl))
    simp only [Array.getD_eq_getD_getElem?] at e8
    have e11 : c.tmps.getD 71 undef = .bool (eqB X A) := hI.fact 11 71 rfl (listed hall 11 (by kernel_rfl))
    simp only [Array.getD_eq_getD_getElem?] at e11
    have hbn : ∀ x : Int, (x != x) = false := fun x => by simp
    have hbs : ∀ x : ByteArray, (x.toList == x.toList) = true := fun x => by simp
    have hbb : ∀ x : Bool, (x != x) = false := fun x => by simp
    go_simp
    try rw [if_pos (by rw [hd5]; simp only [Option.bind_some, g0])]
    exact hK' _ _ (hI.step ckaRa 12 72 rfl (by rw [hsz]; decide) _ _ rfl hall hS (fun _ _ h => h) rfl)
  · have e5 : c.tmps.getD 65 undef = .bool false := hI.fact 5 65 rfl (listed hall 5 (by kernel_rfl))
    simp only [Array.getD_eq_getD_getElem?] at e5
    have e12 : c.tmps.getD 72 undef = .bool false := hI.fact 12 72 rfl (listed hall 12 (by kernel_rfl))
    simp only [Array.getD_eq_getD_getElem?] at e12
    go_simp
    exact hK' _ _ (hI.step ckaRa 13 73 rfl (by rw [hsz]; decide) _ _ rfl hall hS (fun _ _ h => h) rfl)
  · have e13 : c.tmps.getD 73 undef = .bool false := hI.fact 13 73 rfl (listed hall 13 (by kernel_rfl))
    simp only [Array.getD_eq_getD_getElem?] at e13
    go_simp
    exact hK' _ _ (hI.step ckaRa 14 74 rfl (by rw [hsz]; decide) _ _ rfl hall hS (fun _ _ h => h) rfl)
  · have g0 : c.tmps[74]? = some (.bool false) := guard_val (hI.fact 14 74 rfl (listed hall 14 (by kernel_rfl)))
    have c0 := (hRW.keeps (Keeps.of_fresh hS (fun _ => False)) (fun e => e)).cell 0
    have cl := (hRW.keeps (Keeps.of_fresh hS (fun _ => False)) (fun e => e)).lt
    go_simp
    try rw [if_pos (by rw [hd14]; simp only [Option.bind_some, g0])]
    exact hK' _ _ (hI.step ckaRa 15 75 rfl (by rw [hsz]; decide) _ _ rfl hall hS (fun _ _ h => h) rfl)
  · have g0 : c.tmps[74]? = some (.bool false) := guard_val (hI.fact 14 74 rfl (listed hall 14 (by kernel_rfl)))
    have c0 := (hXW.keeps (Keeps.of_fresh hS (fun _ => False)) (fun e => e)).cell 0
    have cl := (hXW.keeps (Keeps.of_fresh hS (fun _ => False)) (fun e => e)).lt
    go_simp
    try rw [if_pos (by rw [hd14]; simp only [Option.bind_some, g0])]
    exact hK' _ _ (hI.step ckaRa 16 76 rfl (by rw [hsz]; decide) _ _ rfl hall hS (fun _ _ h => h) rfl)
  · have g0 : c.tmps[74]? = some (.bool false) := guard_val (hI.fact 14 74 rfl (listed hall 14 (by kernel_rfl)))
    have e15 : c.tmps.getD 75 undef = .agg #[.slice ra R.length rc] := hI.fact 15 75 rfl (listed hall 15 (by kernel_rfl))
    simp only [Array.getD_eq_getD_getElem?] at e15
    have e16 : c.tmps.getD 76 undef = .agg #[.slice xa X.length xc] := hI.fact 16 76 rfl (listed hall 16 (by kernel_rfl))
    simp only [Array.getD_eq_getD_getElem?] at e16
    go_simp
    try rw [if_pos (by rw [hd14]; simp only [Option.bind_some, g0])]
    refine (tree_Same _ _ _ _ R X wx (hRN.new hS) (hXN.new hS)).mono ?_
    rintro e w2 ⟨b, rfl, hbi, hb2⟩
    obtain rfl : b = eqB R X := eqB_of hbi
    go_simp
    try rw [if_pos (by rw [hd14]; simp only [Option.bind_some, g0])]
    have hS2 : Below W.heap.size W w2 := hS.trans (hb2.mono hS.size)
    exact hK' _ _ (hI.step ckaRa 17 77 rfl (by rw [hsz]; decide) _ _ rfl hall hS2 (fun _ _ h => CkaF.new h hb2) rfl)
  · have g0 : c.tmps[74]? = some (.bool false) := guard_val (hI.fact 14 74 rfl (listed hall 14 (by kernel_rfl)))
    have c0 := (hRW.keeps (Keeps.of_fresh hS (fun _ => False)) (fun e => e)).cell 0
    have cl := (hRW.keeps (Keeps.of_fresh hS (fun _ => False)) (fun e => e)).lt
    go_simp
    try rw [if_pos (by rw [hd14]; simp only [Option.bind_some, g0])]
    exact hK' _ _ (hI.step ckaRa 18 78 rfl (by rw [hsz]; decide) _ _ rfl hall hS (fun _ _ h => h) rfl)
  · have g0 : c.tmps[74]? = some (.bool false) := guard_val (hI.fact 14 74 rfl (listed hall 14 (by kernel_rfl)))
    have c0 := (hXW.keeps (Keeps.of_fresh hS (fun _ => False)) (fun e => e)).cell 0
    have cl := (hXW.keeps (Keeps.of_fresh hS (fun _ => False)) (fun e => e)).lt
    go_simp
    try rw [if_pos (by rw [hd14]; simp only [Option.bind_some, g0])]
    exact hK' _ _ (hI.step ckaRa 19 79 rfl (by rw [hsz]; decide) _ _ rfl hall hS (fun _ _ h => h) rfl)
  · have g0 : c.tmps[74]? = some (.bool false) := guard_val (hI.fact 14 74 rfl (listed hall 14 (by kernel_rfl)))
    have e18 : c.tmps.getD 78 undef = .agg #[.slice ra R.length rc] := hI.fact 18 78 rfl (listed hall 18 (by kernel_rfl))
    simp only [Array.getD_eq_getD_getElem?] at e18
    have e19 : c.tmps.getD 79 undef = .agg #[.slice xa X.length xc] := hI.fact 19 79 rfl (listed hall 19 (by kernel_rfl))
    simp only [Array.getD_eq_getD_getElem?] at e19
    go_simp
    try rw [if_pos (by rw [hd14]; simp only [Option.bind_some, g0])]
    refine (ref3_Same _ _ _ _ R X wx (hRN.new hS) (hXN.new hS)).mono ?_
    rintro e w2 ⟨b, rfl, hbi, hb2⟩
    obtain rfl : b = eqB R X := eqB_of hbi
    go_simp
    try rw [if_pos (by rw [hd14]; simp only [Option.bind_some, g0])]
    have hS2 : Below W.heap.size W w2 := hS.trans (hb2.mono hS.size)
    exact hK' _ _ (hI.step ckaRa 20 80 rfl (by rw [hsz]; decide) _ _ rfl hall hS2 (fun _ _ h => CkaF.new h hb2) rfl)
  · have g0 : c.tmps[74]? = some (.bool false) := guard_val (hI.fact 14 74 rfl (listed hall 14 (by kernel_rfl)))
    have e17 : c.tmps.getD 77 undef = .bool (eqB R X) := hI.fact 17 77 rfl (listed hall 17 (by kernel_rfl))
    simp only [Array.getD_eq_getD_getElem?] at e17
    have e20 : c.tmps.getD 80 undef = .bool (eqB R X) := hI.fact 20 80 rfl (listed hall 20 (by kernel_rfl))
    simp only [Array.getD_eq_getD_getElem?] at e20
    have hbn : ∀ x : Int, (x != x) = false := fun x => by simp
    have hbs : ∀ x : ByteArray, (x.toList == x.toList) = true := fun x => by simp
    have hbb : ∀ x : Bool, (x != x) = false := fun x => by simp
    go_simp
    try rw [if_pos (by rw [hd14]; simp only [Option.bind_some, g0])]
    exact hK' _ _ (hI.step ckaRa 21 81 rfl (by rw [hsz]; decide) _ _ rfl hall hS (fun _ _ h => h) rfl)
  · have e14 : c.tmps.getD 74 undef = .bool false := hI.fact 14 74 rfl (listed hall 14 (by kernel_rfl))
    simp only [Array.getD_eq_getD_getElem?] at e14
    have e21 : c.tmps.getD 81 undef = .bool false := hI.fact 21 81 rfl (listed hall 21 (by kernel_rfl))
    simp only [Array.getD_eq_getD_getElem?] at e21
    go_simp
    exact hK' _ _ (hI.step ckaRa 22 82 rfl (by rw [hsz]; decide) _ _ rfl hall hS (fun _ _ h => h) rfl)
end Go.Proofs.YtjfkjnakmmkkiaaGreat
