/- Contracts of package tree: the walk of one node more (region 12 of Add; printed by gadd.py). | Contracts of package tree: Add. | Add keeps a valid tree valid, in plain Lean: parts. | Contracts of bringuplaw03: root, awake; of package tree: Children. | Add keeps a valid tree valid, in plain Lean. | Contracts of bringuplaw03: awake. -/
import Derived.Test.YtjfkjnakmmkkiaaGreatZ18
import Derived.Test.YtjfkjnakmmkkiaaGreatZ19
import Derived.Deep.RegionLawGrows
import Derived.Test.YtjfkjnakmmkkiaaGreatZ6
import Derived.Test.YtjfkjnakmmkkiaaGreatZ1

namespace Go.Proofs.YtjfkjnakmmkkiaaGreat
open Go.RowKit

noncomputable def addOps (n : Nat) : Array Oper := (regOps (Tryz.f58.body.getD .skip) n).getD #[]
theorem add12 : inRow2 .any (addOps 12) = true := by kernel_rfl
theorem add12a : apartB (addOps 12) = true := by kernel_rfl
theorem add12n : (addOps 12).size = 21 := by kernel_rfl
theorem listed_mono {l : Array Bool} {i j : Nat} (h : l.getD j false = true) : (l.setIfInBounds i true).getD j false = true := by
  cases e : (l.setIfInBounds i true).getD j false with
  | true => rfl
  | false => rw [listed_set e] at h; cases h
theorem listed_now {l : Array Bool} {i : Nat} (h : i < l.size) : (l.setIfInBounds i true).getD i false = true := by simp [h]
theorem PropsIn.mono' {R R' : Nat → Prop} {w : World} {v : Value} {ps : List PropT} (h : PropsIn R w v ps) (hs : ∀ g, R g → R' g) : PropsIn R' w v ps := by
  obtain ⟨a, cap, e, h1, h2, h3⟩ := h
  refine ⟨a, cap, e, h1, h2, fun h0 => ?_⟩
  obtain ⟨g, o, ea, hR, hc⟩ := h3 h0
  exact ⟨g, o, ea, hs g hR, hc⟩
def AddS (R : Nat → Prop) (base X kB sB g o cap : Nat) (k : Int) (name : ByteArray) (T : List NodeT) (W w : World) : Prop :=
  Holds w X #[.slice (some ⟨g, o, none⟩) T.length cap] 25 ∧ Holds w kB #[.int .i64 k] 3 ∧ Holds w sB #[.string name] 9 ∧ NodesIn R w (.slice (some ⟨g, o, none⟩) T.length cap) T ∧ Below W.heap.size W w ∧ base ≤ w.heap.size
def AddF (base W0 X _ _ g o cap : Nat) (k : Int) (name : ByteArray) (T : List NodeT) (M : Nat) (d : Bool) (j : Nat) : Value → World → Prop := match j with
  | 0 => fun u _ => u = .pointer (some ⟨X, 0, none⟩)
  | 1 => fun u _ => u = .slice (some ⟨g, o, none⟩) T.length cap
  | 2 => fun u _ => u = .pointer (some ⟨X, 0, none⟩)
  | 3 => fun u _ => u = .slice (some ⟨g, o, none⟩) T.length cap
  | 4 => fun u _ => u = .int .i64 T.length
  | 5 => fun u _ => u = .pointer (some ⟨X, 0, none⟩)
  | 6 => fun u _ => u = .slice (some ⟨g, o, none⟩) T.length cap
  | 7 => fun u _ => u = .int .i64 T.length
  | 8 => fun u _ => u = .slice (some ⟨g, o, none⟩) T.length T.length
  | 9 => fun u _ => u = .int .i64 k
  | 10 => fun u _ => u = .string name
  | 11 => fun u _ => u = .agg #[.int .i64 k, .string name, .slice none 0 0]
  | 12 => fun u w => ∃ N, u = .slice (some ⟨N, 0, none⟩) 1 1 ∧ Holds w N #[.int .i64 k, .string name, .slice none 0 0] 76
  | 13 => fun u w => d = false → ∃ a' c', u = .slice a' (T.length + 1) c' ∧ NodesIn (fun _ => True) w (.slice a' (T.length + 1) c') (T ++ [(⟨k, name, []⟩ : NodeT)])
  | 14 => fun u w => ∃ tv' gP, u = .tuple #[.agg #[tv'], .slice (some ⟨gP, 0, none⟩) (T.length + 1) (T.length + 1)] ∧ TreeRow w base tv' (sortedT (T ++ [(⟨k, name, []⟩ : NodeT)]))
  | 15 => fun u w => ∃ tv' gP, u = .tuple #[.agg #[tv'], .slice (some ⟨gP, 0, none⟩) (T.length + 1) (T.length + 1)] ∧ TreeRow w base tv' (sortedT (T ++ [(⟨k, name, []⟩ : NodeT)]))
  | 16 => fun u w => ∃ tv', u = .agg #[tv'] ∧ TreeRow w base tv' (sortedT (T ++ [(⟨k, name, []⟩ : NodeT)]))
  | 17 => fun _ _ => True
  | 18 => fun u w => u = .pointer (some ⟨M, 0, none⟩) ∧ W0 ≤ M ∧ ∃ x, Holds w M #[x] 25
  | 19 => fun _ w => ∃ tv', Holds w M #[tv'] 25 ∧ TreeRow w base tv' (sortedT (T ++ [(⟨k, name, []⟩ : NodeT)]))
  | 20 => fun _ _ => True
  | _ => fun _ _ => True
section
variable {R : Nat → Prop} {base W0 X kB sB g o cap : Nat} {k : Int} {name : ByteArray} {T : List NodeT} {M : Nat} {d : Bool}
theorem AddS.new {W w w' : World} (h : AddS R base X kB sB g o cap k name T W w) (b : Below w.heap.size w w') : AddS R base X kB sB g o cap k name T W w' := by
  have kk := Keeps.of_fresh b (fun _ => False)
  exact ⟨h.1.keeps kk (fun e => e), h.2.1.keeps kk (fun e => e), h.2.2.1.keeps kk (fun e => e), h.2.2.2.1.new b, h.2.2.2.2.1.trans (b.mono h.2.2.2.2.1.size), Nat.le_trans h.2.2.2.2.2 b.size⟩
theorem AddS.set {W w : World} {x : Value} (h : AddS R base X kB sB g o cap k name T W w) (hM : W.heap.size ≤ M) (hH : Holds w M #[x] 25) (v : Value) (hX : X < W.heap.size) (hR : ∀ q, R q → q < W.heap.size) : AddS R base X kB sB g o cap k name T W (w.setCell ⟨M, 0, none⟩ v) := by
  have kk : Keeps (· = M) w (w.setCell ⟨M, 0, none⟩ v) := (Keeps.refl (· = M) w).setCell (p := ⟨M, 0, none⟩) (Or.inr rfl) v
  exact ⟨h.1.keeps kk (by omega), h.2.1.keeps kk (holds_ne h.2.1 hH (by decide)), h.2.2.1.keeps kk (holds_ne h.2.2.1 hH (by decide)), h.2.2.2.1.keeps kk (fun q hq e => by have := hR q hq; omega), h.2.2.2.2.1.setCell (p := ⟨M, 0, none⟩) hM v, Nat.le_trans h.2.2.2.2.2 kk.size⟩
theorem AddF.new {w w' : World} {j : Nat} {u : Value} (h : AddF base W0 X kB sB g o cap k name T M d j u w) (b : Below w.heap.size w w') : AddF base W0 X kB sB g o cap k name T M d j u w' := by
  unfold AddF at *
  have kk := Keeps.of_fresh b (fun _ => False)
  split at h
  all_goals first
    | exact h
    | (obtain ⟨N, e, hN⟩ := h; exact ⟨N, e, Holds.keeps hN kk (fun e => e)⟩)
    | exact fun e => by
        obtain ⟨a', c', e, hN⟩ := h e; exact ⟨a', c', e, NodesIn.new hN b⟩
    | (obtain ⟨a', c', e, hN⟩ := h; exact ⟨a', c', e, TreeRow.new hN b⟩)
    | (obtain ⟨a', e, hN⟩ := h; exact ⟨a', e, TreeRow.new hN b⟩)
    | (obtain ⟨e, h1, x, hN⟩ := h; exact ⟨e, h1, x, hN.keeps kk (fun e => e)⟩)
    | (obtain ⟨a', e, hN⟩ := h; exact ⟨a', Holds.keeps e kk (fun e => e), TreeRow.new hN b⟩)
theorem AddF.ghost {w : World} {j M' : Nat} {u : Value} (h : AddF base W0 X kB sB g o cap k name T M d j u w) (h18 : j ≠ 18) (h19 : j ≠ 19) : AddF base W0 X kB sB g o cap k name T M' d j u w := by
  unfold AddF at *
  split at h
  all_goals first
    | exact absurd rfl h18
    | exact absurd rfl h19
    | exact h
theorem AddF.done {w : World} {j : Nat} {u : Value} (h : AddF base W0 X kB sB g o cap k name T M d j u w) : AddF base W0 X kB sB g o cap k name T M true j u w := by
  unfold AddF at *
  split at h
  all_goals first
    | exact h
    | exact fun e => by cases e
theorem AddF.set {w : World} {j : Nat} {u x v : Value} (h : AddF base W0 X kB sB g o cap k name T M true j u w) (hH : Holds w M #[x] 25) (h19 : j ≠ 19) : AddF base W0 X kB sB g o cap k name T M true j u (w.setCell ⟨M, 0, none⟩ v) := by
  unfold AddF at *
  split at h
  all_goals first
    | exact absurd rfl h19
    | exact fun e => by cases e
    | exact h
    | (obtain ⟨N, e, hN⟩ := h; exact ⟨N, e, Holds.other hN _ _ (holds_ne hN hH (by decide))⟩)
    | (obtain ⟨a', c', e, hN⟩ := h; exact ⟨a', c', e, TreeRow.set hN hH (by decide) (by decide) 0 v⟩)
    | (obtain ⟨a', e, hN⟩ := h; exact ⟨a', e, TreeRow.set hN hH (by decide) (by decide) 0 v⟩)
    | (obtain ⟨e, h1, x, hN⟩ := h; exact ⟨e, h1, v, hN.set 0 v⟩)
end

set_option maxHeartbeats 4000000 in
set_option maxRecDepth 100000 in
theorem add_region12 {Q : Exit → Act → World → Prop} (R : Nat → Prop) (base X kB sB g o cap : Nat) (k : Int) (name : ByteArray) (T : List NodeT) (W w : World) (A : Act) (hsz : A.tmps.size = 60) (hT0 : 0 < T.length) (hTl : T.length ≤ 900) (hcap : T.length ≤ cap) (hXW : X < W.heap.size) (hRW : ∀ q, R q → q < W.heap.size)
    (hSh : Shape (T ++ [(⟨k, name, []⟩ : NodeT)])) (hDi : Dis (T ++ [(⟨k, name, []⟩ : NodeT)])) (hpl : ∀ n ∈ T ++ [(⟨k, name, []⟩ : NodeT)], n.props.length ≤ 1000) (hnd : NodeOk (⟨k, name, []⟩ : NodeT))
    (a3 : A.tmps.getD 3 undef = .pointer (some ⟨X, 0, none⟩)) (a5 : A.tmps.getD 5 undef = .pointer (some ⟨sB, 0, none⟩)) (a8 : A.tmps.getD 8 undef = .pointer (some ⟨kB, 0, none⟩))
    (hS : AddS R base X kB sB g o cap k name T W w)
    (hQ : ∀ c w' M tv', SameBut (addOps 12) A c → c.tmps.getD 10 undef = .pointer (some ⟨M, 0, none⟩) → Holds w' M #[tv'] 25 → W.heap.size ≤ M → TreeRow w' base tv' (sortedT (T ++ [(⟨k, name, []⟩ : NodeT)])) → AddS R base X kB sB g o cap k name T W w' → Q .normal c w') :
    wpAny Tryz.prog .any (addOps 12) Q (addOps 12).size (Array.replicate (addOps 12).size false) A w := by
  refine wpAny_inv2 (fun l c wx => ∃ M d, RInv (addOps 12) A (AddF base W.heap.size X kB sB g o cap k name T M d) (AddS R base X kB sB g o cap k name T W) l c wx ∧ (d = true → l.getD 19 false = true)) add12 ?hend ?hstep _ _ _ _ (by simp) (by simp) ⟨0, false, RInv.start hS, fun e => by cases e⟩
  case hend =>
    rintro l c wx ⟨M, d, hI, hd⟩ hl
    obtain ⟨tv', h1, h2⟩ := hI.2.2.2 19 (by rw [add12n]; decide) (hl 19 (by rw [add12n]; decide))
    obtain ⟨h3, h4, _⟩ : c.tmps.getD 10 undef = .pointer (some ⟨M, 0, none⟩) ∧ W.heap.size ≤ M ∧ ∃ x, Holds wx M #[x] 25 := hI.fact 18 10 rfl (hl 18 (by rw [add12n]; decide))
    exact hQ c wx M tv' hI.1 h3 h1 h4 h2 hI.2.1
  rintro l c wx ⟨M, d, hI, hd⟩ i' op ho hl hall K' hK'
  have hi13 : i' < 21 := by rw [← add12n]; exact (Array.getElem?_eq_some_iff.1 ho).1
  simp only [addOps, regOps, Tryz.f58, Option.getD_some, reduceIte, Nat.reduceEqDiff] at ho
  have hS := hI.2.1
  have s3 := (hI.slot 3 (by kernel_rfl)).trans a3
  have s5 := (hI.slot 5 (by kernel_rfl)).trans a5
  have s8 := (hI.slot 8 (by kernel_rfl)).trans a8
  simp only [Array.getD_eq_getD_getElem?] at s3 s5 s8
  have hic : i' = 0 ∨ i' = 1 ∨ i' = 2 ∨ i' = 3 ∨ i' = 4 ∨ i' = 5 ∨ i' = 6 ∨ i' = 7 ∨ i' = 8 ∨ i' = 9 ∨ i' = 10 ∨ i' = 11 ∨ i' = 12 ∨ i' = 13 ∨ i' = 14 ∨ i' = 15 ∨ i' = 16 ∨ i' = 17 ∨ i' = 18 ∨ i' = 19 ∨ i' = 20 := by omega
  rcases hic with rfl | rfl | rfl | rfl | rfl | rfl | rfl | rfl | rfl | rfl | rfl | rfl | rfl | rfl | rfl | rfl | rfl | rfl | rfl | rfl | rfl
  all_goals cases ho
  · go_simp
    exact hK' _ _ ⟨M, d, hI.stepL add12a 0 42 rfl (by rw [hsz]; decide) _ _ rfl hall hS (fun _ _ _ h => h) rfl, fun e => listed_mono (hd e)⟩
  · have e0 : c.tmps.getD 42 undef = .pointer (some ⟨X, 0, none⟩) := hI.fact 0 42 rfl (listed hall 0 (by kernel_rfl))
    have f0 := e0
    simp only [Array.getD_eq_getD_getElem?] at e0
    have hX := hS.1.cell 0
    go_simp
    exact hK' _ _ ⟨M, d, hI.stepL add12a 1 43 rfl (by rw [hsz]; decide) _ _ rfl hall hS (fun _ _ _ h => h) rfl, fun e => listed_mono (hd e)⟩
  · go_simp
    exact hK' _ _ ⟨M, d, hI.stepL add12a 2 44 rfl (by rw [hsz]; decide) _ _ rfl hall hS (fun _ _ _ h => h) rfl, fun e => listed_mono (hd e)⟩
  · have e2 : c.tmps.getD 44 undef = .pointer (some ⟨X, 0, none⟩) := hI.fact 2 44 rfl (listed hall 2 (by kernel_rfl))
    have f2 := e2
    simp only [Array.getD_eq_getD_getElem?] at e2
    have hX := hS.1.cell 0
    go_simp
    exact hK' _ _ ⟨M, d, hI.stepL add12a 3 45 rfl (by rw [hsz]; decide) _ _ rfl hall hS (fun _ _ _ h => h) rfl, fun e => listed_mono (hd e)⟩
  · have e3 : c.tmps.getD 45 undef = .slice (some ⟨g, o, none⟩) T.length cap := hI.fact 3 45 rfl (listed hall 3 (by kernel_rfl))
    have f3 := e3
    simp only [Array.getD_eq_getD_getElem?] at e3
    go_simp
    exact hK' _ _ ⟨M, d, hI.stepL add12a 4 46 rfl (by rw [hsz]; decide) _ _ rfl hall hS (fun _ _ _ h => h) rfl, fun e => listed_mono (hd e)⟩
  · go_simp
    exact hK' _ _ ⟨M, d, hI.stepL add12a 5 47 rfl (by rw [hsz]; decide) _ _ rfl hall hS (fun _ _ _ h => h) rfl, fun e => listed_mono (hd e)⟩
  · have e5 : c.tmps.getD 47 undef = .pointer (some ⟨X, 0, none⟩) := hI.fact 5 47 rfl (listed hall 5 (by kernel_rfl))
    have f5 := e5
    simp only [Array.getD_eq_getD_getElem?] at e5
    have hX := hS.1.cell 0
    go_simp
    exact hK' _ _ ⟨M, d, hI.stepL add12a 6 48 rfl (by rw [hsz]; decide) _ _ rfl hall hS (fun _ _ _ h => h) rfl, fun e => listed_mono (hd e)⟩
  · have e6 : c.tmps.getD 48 undef = .slice (some ⟨g, o, none⟩) T.length cap := hI.fact 6 48 rfl (listed hall 6 (by kernel_rfl))
    have f6 := e6
    simp only [Array.getD_eq_getD_getElem?] at e6
    go_simp
    exact hK' _ _ ⟨M, d, hI.stepL add12a 7 49 rfl (by rw [hsz]; decide) _ _ rfl hall hS (fun _ _ _ h => h) rfl, fun e => listed_mono (hd e)⟩
  · have e1 : c.tmps.getD 43 undef = .slice (some ⟨g, o, none⟩) T.length cap := hI.fact 1 43 rfl (listed hall 1 (by kernel_rfl))
    have f1 := e1
    simp only [Array.getD_eq_getD_getElem?] at e1
    have e4 : c.tmps.getD 46 undef = .int .i64 T.length := hI.fact 4 46 rfl (listed hall 4 (by kernel_rfl))
    have f4 := e4
    simp only [Array.getD_eq_getD_getElem?] at e4
    have e7 : c.tmps.getD 49 undef = .int .i64 T.length := hI.fact 7 49 rfl (listed hall 7 (by kernel_rfl))
    have f7 := e7
    simp only [Array.getD_eq_getD_getElem?] at e7
    go_simp
    exact hK' _ _ ⟨M, d, hI.stepL add12a 8 50 rfl (by rw [hsz]; decide) _ _ rfl hall hS (fun _ _ _ h => h) rfl, fun e => listed_mono (hd e)⟩
  · have hX := hS.2.1.cell 0
    go_simp
    exact hK' _ _ ⟨M, d, hI.stepL add12a 9 51 rfl (by rw [hsz]; decide) _ _ rfl hall hS (fun _ _ _ h => h) rfl, fun e => listed_mono (hd e)⟩
  · have hX := hS.2.2.1.cell 0
    go_simp
    exact hK' _ _ ⟨M, d, hI.stepL add12a 10 52 rfl (by rw [hsz]; decide) _ _ rfl hall hS (fun _ _ _ h => h) rfl, fun e => listed_mono (hd e)⟩
  · have e9 : c.tmps.getD 51 undef = .int .i64 k := hI.fact 9 51 rfl (listed hall 9 (by kernel_rfl))
    have f9 := e9
    simp only [Array.getD_eq_getD_getElem?] at e9
    have e10 : c.tmps.getD 52 undef = .string name := hI.fact 10 52 rfl (listed hall 10 (by kernel_rfl))
    have f10 := e10
    simp only [Array.getD_eq_getD_getElem?] at e10
    go_simp
    exact hK' _ _ ⟨M, d, hI.stepL add12a 11 53 rfl (by rw [hsz]; decide) _ _ rfl hall hS (fun _ _ _ h => h) rfl, fun e => listed_mono (hd e)⟩
  · have e11 : c.tmps.getD 53 undef = .agg #[.int .i64 k, .string name, .slice none 0 0] := hI.fact 11 53 rfl (listed hall 11 (by kernel_rfl))
    have f11 := e11
    simp only [Array.getD_eq_getD_getElem?] at e11
    go_simp
    have hb2 : Below wx.heap.size wx (wx.alloc (.cells #[.int .i64 k, .string name, .slice none 0 0] 76)) := (Below.refl _ _).alloc (Nat.le_refl _) _
    exact hK' _ _ ⟨M, d, hI.stepL add12a 12 54 rfl (by rw [hsz]; decide) _ _ rfl hall (hS.new hb2) (fun j _ u h => h.new hb2) ⟨_, rfl, Holds.new _ _ _⟩, fun e => listed_mono (hd e)⟩
  · have e8 : c.tmps.getD 50 undef = .slice (some ⟨g, o, none⟩) T.length T.length := hI.fact 8 50 rfl (listed hall 8 (by kernel_rfl))
    have f8 := e8
    simp only [Array.getD_eq_getD_getElem?] at e8
    obtain ⟨N, e12, hN⟩ : ∃ N, c.tmps.getD 54 undef = .slice (some ⟨N, 0, none⟩) 1 1 ∧ Holds wx N #[.int .i64 k, .string name, .slice none 0 0] 76 := hI.fact 12 54 rfl (listed hall 12 (by kernel_rfl))
    obtain ⟨g0, o0, pvs, hgo, hgl, -, hpl, hpp, hnk, hcl, -⟩ := hS.2.2.2.1.row hT0
    cases hgo
    obtain ⟨i0, hi, hz0, hz1, hz2⟩ := info_parts infoNd
    refine step_append_grows (by rfl) _ _ _ (by rfl) 76 i0 _ 3 48 Tryz.underlying23 hi hz0 hz1 hz2 rfl (by omega) (some ⟨g, o, none⟩) T.length T.length (nodeCells T pvs) (by exact f8) (fun h => by cases h) (by rw [nodeCells_len T pvs hpl]) (fun b hb => by cases hb; exact hcl) ⟨N, 0, none⟩ 1 1 [.int .i64 k, .string name, .slice none 0 0] (by exact e12) (by rfl) (World.news_of_block (cs := #[.int .i64 k, .string name, .slice none 0 0]) (t := 76) (fr := (0, 0)) hN) (by simp [Value.oneCell']) (by omega) (by unfold maxLen; omega) (by omega) ?_
    intro v' w8 hown8 hgrow
    obtain ⟨a', c', rfl⟩ := row_slice hown8
    have hb2 : Below wx.heap.size wx w8 := (Below.refl _ _).grown hgrow (by simp) (fun q hq => by cases hq)
    have hN8 : NodesIn (fun _ => True) w8 (.slice a' (T.length + 1) c') (T ++ [(⟨k, name, []⟩ : NodeT)]) := by
      have h1 : w8.ownsRow wx.heap.size 76 3 (.slice a' (T.length + 1) c') (T ++ [(⟨k, name, []⟩ : NodeT)]).length (nodeCells (T ++ [(⟨k, name, []⟩ : NodeT)]) (pvs ++ [.slice none 0 0])) := by
        rw [nodeCells_snoc T pvs _ _ hpl, List.length_append, List.length_singleton]; exact hown8
      refine nodes_row h1 (by simp [hpl]) (fun j hj hj2 => ?_) (fun n hn => ?_) (fun _ _ => trivial)
      · by_cases e : j < T.length
        · have := ((hpp j e (by omega)).new hb2).mono' (R' := fun _ => True) (fun _ _ => trivial)
          simpa [List.getElem_append_left, e, hpl] using this
        · have e2 : j = T.length := by simp at hj; omega
          subst e2
          have : PropsIn (fun _ => True) w8 (.slice none 0 0) [] := ⟨none, 0, rfl, Nat.le_refl _, by omega, fun h => absurd h (Nat.not_lt_zero _)⟩
          simpa [List.getElem_append_right, hpl] using this
      · rcases List.mem_append.1 hn with hn | hn
        · exact hnk n hn
        · simp at hn; subst hn; exact hnd
    exact hK' _ _ ⟨M, d, hI.stepL add12a 13 55 rfl (by rw [hsz]; decide) _ _ rfl hall (hS.new hb2) (fun j _ u h => h.new hb2) (fun _ => ⟨a', c', rfl, hN8⟩), fun e => listed_mono (hd e)⟩
  · have u19 := hI.2.2.1.2.unlisted (hI.2.2.1.2.unlisted (hI.2.2.1.2.unlisted hl (j := 15) (by kernel_rfl)) (j := 16) (by kernel_rfl)) (j := 19) (by kernel_rfl)
    have hdf : d = false := by cases d with
      | false => rfl
      | true => have := hd rfl; rw [u19] at this; cases this
    obtain ⟨a', c', e13, hN⟩ : ∃ a' c', c.tmps.getD 55 undef = .slice a' (T.length + 1) c' ∧ NodesIn (fun _ => True) wx (.slice a' (T.length + 1) c') (T ++ [(⟨k, name, []⟩ : NodeT)]) := hI.fact 13 55 rfl (listed hall 13 (by kernel_rfl)) hdf
    simp only [Array.getD_eq_getD_getElem?] at e13
    go_simp
    refine (walk_Tree (fun _ => True) _ (T ++ [(⟨k, name, []⟩ : NodeT)]) wx hN hSh hDi (by simp; omega) hpl).mono ?_
    rintro e w2 ⟨tv', gP, l', rfl, hr2, -, -, -, -, hb2⟩
    rw [List.length_append, List.length_singleton]
    go_simp
    exact hK' _ _ ⟨M, d, hI.stepL add12a 14 56 rfl (by rw [hsz]; decide) _ _ rfl hall (hS.new hb2) (fun j _ u h => h.new hb2) ⟨tv', gP, rfl, hr2.base hS.2.2.2.2.2⟩, fun e => listed_mono (hd e)⟩
  · obtain ⟨tv', gP, e14, hr⟩ : ∃ tv' gP, c.tmps.getD 56 undef = .tuple #[.agg #[tv'], .slice (some ⟨gP, 0, none⟩) (T.length + 1) (T.length + 1)] ∧ TreeRow wx base tv' (sortedT (T ++ [(⟨k, name, []⟩ : NodeT)])) := hI.fact 14 56 rfl (listed hall 14 (by kernel_rfl))
    simp only [Array.getD_eq_getD_getElem?] at e14
    go_simp
    exact hK' _ _ ⟨M, d, hI.stepL add12a 15 41 rfl (by rw [hsz]; decide) _ _ rfl hall hS (fun _ _ _ h => h) ⟨tv', gP, rfl, hr⟩, fun e => listed_mono (hd e)⟩
  · obtain ⟨tv', gP, e14, hr⟩ : ∃ tv' gP, c.tmps.getD 41 undef = .tuple #[.agg #[tv'], .slice (some ⟨gP, 0, none⟩) (T.length + 1) (T.length + 1)] ∧ TreeRow wx base tv' (sortedT (T ++ [(⟨k, name, []⟩ : NodeT)])) := hI.fact 15 41 rfl (listed hall 15 (by kernel_rfl))
    simp only [Array.getD_eq_getD_getElem?] at e14
    go_simp
    exact hK' _ _ ⟨M, d, hI.stepL add12a 16 57 rfl (by rw [hsz]; decide) _ _ rfl hall hS (fun _ _ _ h => h) ⟨tv', rfl, hr⟩, fun e => listed_mono (hd e)⟩
  · obtain ⟨tv', gP, e14, hr⟩ : ∃ tv' gP, c.tmps.getD 41 undef = .tuple #[.agg #[tv'], .slice (some ⟨gP, 0, none⟩) (T.length + 1) (T.length + 1)] ∧ TreeRow wx base tv' (sortedT (T ++ [(⟨k, name, []⟩ : NodeT)])) := hI.fact 15 41 rfl (listed hall 15 (by kernel_rfl))
    simp only [Array.getD_eq_getD_getElem?] at e14
    go_simp
    exact hK' _ _ ⟨M, d, hI.stepL add12a 17 58 rfl (by rw [hsz]; decide) _ _ rfl hall hS (fun _ _ _ h => h) trivial, fun e => listed_mono (hd e)⟩
  · have u19 := hI.2.2.1.2.unlisted hl (j := 19) (by kernel_rfl)
    go_simp
    have hb2 : Below wx.heap.size wx (wx.alloc (.cells #[.slice none 0 0] 25)) := (Below.refl _ _).alloc (Nat.le_refl _) _
    have hJ := hI.other (F' := AddF base W.heap.size X kB sB g o cap k name T wx.heap.size d) (fun j hj u h => h.ghost (yes_no hj hl) (yes_no hj u19))
    exact hK' _ _ ⟨wx.heap.size, d, hJ.stepL add12a 18 10 rfl (by rw [hsz]; decide) _ _ rfl hall (hS.new hb2) (fun j _ u h => h.new hb2) ⟨rfl, hS.2.2.2.2.1.size, _, Holds.new _ _ _⟩, fun e => listed_mono (hd e)⟩
  · obtain ⟨e18, hM, x, hHM⟩ : c.tmps.getD 10 undef = .pointer (some ⟨M, 0, none⟩) ∧ W.heap.size ≤ M ∧ ∃ x, Holds wx M #[x] 25 := hI.fact 18 10 rfl (listed hall 18 (by kernel_rfl))
    obtain ⟨tv', e16, hr⟩ : ∃ tv', c.tmps.getD 57 undef = .agg #[tv'] ∧ TreeRow wx base tv' (sortedT (T ++ [(⟨k, name, []⟩ : NodeT)])) := hI.fact 16 57 rfl (listed hall 16 (by kernel_rfl))
    simp only [Array.getD_eq_getD_getElem?] at e18 e16
    obtain ⟨va, vc, rfl⟩ := tree_slice hr
    have n0 := hHM.cell 0
    have n1 := hHM.free 0
    go_simp
    have hJ := hI.other (F' := AddF base W.heap.size X kB sB g o cap k name T M true) (fun j hj u h => h.done)
    exact hK' _ _ ⟨M, true, hJ.stepNL 19 rfl _ rfl hall (hS.set hM hHM _ hXW hRW) (fun j hj u h => h.set hHM (yes_no hj hl)) ⟨_, hHM.set 0 _, hr.set hHM (by decide) (by decide) 0 _⟩, fun _ => listed_now (by rw [hI.2.2.1.1, add12n]; decide)⟩
  · go_simp
    exact hK' _ _ ⟨M, d, hI.stepL add12a 20 11 rfl (by rw [hsz]; decide) _ _ rfl hall hS (fun _ _ _ h => h) trivial, fun e => listed_mono (hd e)⟩
end Go.Proofs.YtjfkjnakmmkkiaaGreat

namespace Go.Proofs.YtjfkjnakmmkkiaaGreat
open Go.RowKit

theorem dis_check {T : List NodeT} (h : checkT T = 0) : Dis T := by
  have hn := check_named h
  have ht : twinT T = false := by
    unfold checkT at h
    rw [check_limits h, hn] at h
    simp only [Bool.true_eq_false, if_false] at h
    split at h
    · cases h
    · split at h
      · cases h
      · rename_i h3; simpa using h3
  rw [twin_dup hn] at ht
  have key : ∀ x y, 0 < x → x < y → y < T.length → parOf T x = parOf T y → nameOf T x = nameOf T y → False := by
    intro x y hx hxy hy hp hm
    have : dupAny T = true := by
      unfold dupAny
      rw [List.any_eq_true]
      exact ⟨y, List.mem_range.2 hy, (dupF_iff T y y).2 ⟨x, hx, hxy, hp, hm⟩⟩
    rw [ht] at this; cases this
  intro x y hx hxl hy hyl hp hm
  rcases Nat.lt_trichotomy x y with h1 | h1 | h1
  · exact (key x y hx h1 hyl hp hm).elim
  · exact h1
  · exact (key y x hy h1 hxl hp.symm hm.symm).elim
theorem dis_more {T : List NodeT} (h : Dis T) {k : Nat} {name : ByteArray} (_ : k < T.length) (ha : T.any (sameKid (k : Int) name) = false) : Dis (T ++ [⟨k, name, []⟩]) := by
  have hpo : ∀ i, i < T.length → parOf (T ++ [(⟨k, name, []⟩ : NodeT)]) i = parOf T i ∧ nameOf (T ++ [(⟨k, name, []⟩ : NodeT)]) i = nameOf T i := by
    intro i hi
    unfold parOf nameOf
    rw [List.getElem?_append_left hi]
    exact ⟨rfl, rfl⟩
  have hpl : parOf (T ++ [(⟨k, name, []⟩ : NodeT)]) T.length = k ∧ nameOf (T ++ [(⟨k, name, []⟩ : NodeT)]) T.length = name := by
    unfold parOf nameOf
    simp
  have hno : ∀ i, i < T.length → parOf T i = (k : Int) → nameOf T i = name → False := by
    intro i hi h1 h2
    have := List.any_eq_false.1 ha T[i] (List.getElem_mem hi)
    apply this
    unfold sameKid
    rw [parOf_at hi] at h1
    rw [nameOf_at hi] at h2
    rw [h1, h2]
    simp [eqS]
  intro x y hx hxl hy hyl hp hm
  simp only [List.length_append, List.length_singleton] at hxl hyl
  by_cases h1 : x < T.length
  · by_cases h2 : y < T.length
    · rw [(hpo x h1).1, (hpo y h2).1] at hp
      rw [(hpo x h1).2, (hpo y h2).2] at hm
      exact h x y hx h1 hy h2 hp hm
    · obtain rfl : y = T.length := by omega
      rw [(hpo x h1).1, hpl.1] at hp
      rw [(hpo x h1).2, hpl.2] at hm
      exact (hno x h1 hp hm).elim
  · obtain rfl : x = T.length := by omega
    by_cases h2 : y < T.length
    · rw [(hpo y h2).1, hpl.1] at hp
      rw [(hpo y h2).2, hpl.2] at hm
      exact (hno y h2 hp.symm hm.symm).elim
    · omega
theorem deep_check {T : List NodeT} (h : checkT T = 0) (i : Nat) (hi : i < T.length) : depF T T.length i ≤ 8 := by
  have hd : deepT T = false := by
    unfold checkT at h
    split at h
    · cases h
    · split at h
      · cases h
      · split at h
        · cases h
        · split at h
          · cases h
          · split at h
            · cases h
            · rename_i h5; simpa using h5
  unfold deepT at hd
  have := List.any_eq_false.1 hd i (List.mem_range.2 hi)
  unfold depT at this
  simpa using this

set_option maxRecDepth 100000 in
set_option maxHeartbeats 4000000 in
theorem tree_Add (R : Nat → Prop) (v : Value) (T : List NodeT) (s name : ByteArray) (w : World) (hT : NodesIn R w v T) (hns : name.size ≤ 9223372036854775807) :
    Calls Tryz.prog 58 #[.agg #[v], .string s, .string name] w (EditPost (addT T s name) w) := by
  obtain ⟨a, cap, rfl, hc1, hc2⟩ := hT.shape
  have HT := Lib.hid hT.bound; clear hT
  have hbg := fun wx hx => tree_begin (fun g => g < w.heap.size) (.slice a T.length cap) T s wx hx
  have hb0 : Below w.heap.size w (((w.alloc (.cells #[.slice a T.length cap] 25)).alloc (.cells #[.string name] 9)).alloc (.cells #[.slice none 0 0] 25)) := (((Below.refl _ _).alloc (Nat.le_refl _) _).alloc (by simp) _).alloc (by simp; omega) _
  have hX0 := ((Holds.new w #[.slice a T.length cap] 25).alloc (.cells #[.string name] 9)).alloc (.cells #[.slice none 0 0] 25)
  have hS0 := (Holds.newAt (w := w.alloc (.cells #[.slice a T.length cap] 25)) (B := w.heap.size + 1) (by simp) #[.string name] 9).alloc (.cells #[.slice none 0 0] 25)
  have hZ0 := Holds.newAt (w := (w.alloc (.cells #[.slice a T.length cap] 25)).alloc (.cells #[.string name] 9)) (B := w.heap.size + 1 + 1) (by simp) #[.slice none 0 0] 25
  rcases begin_cases T s with ⟨hne, h10⟩ | ⟨hck, k, hk, hbe, hps⟩
  · have hE := Lib.hid (show addT T s name = ([], (rBeginT T s).2) from by unfold addT; rw [if_pos hne])
    have hne' : ((rBeginT T s).2 != 0) = true := by simpa using hne
    rw [h10] at hbg
    have HBG := Lib.hid hbg
    clear hbg hne h10
    generalize (rBeginT T s).2 = c at *
    go_enter Tryz.func58, Tryz.ntmps58
    go_wp2_with fail
    refine (HBG.out _ (by exact HT.out.new hb0)).mono ?_
    rintro e w1 ⟨rfl, hb1⟩
    have hX1 := hX0.keeps (Keeps.of_fresh hb1 (fun _ => False)) (fun e => e)
    have hS1 := hS0.keeps (Keeps.of_fresh hb1 (fun _ => False)) (fun e => e)
    have hZ1 := hZ0.keeps (Keeps.of_fresh hb1 (fun _ => False)) (fun e => e)
    have hb2 := hb0.trans (hb1.mono (by simp; omega))
    have hs2 := hb2.size
    have hZ2 := hZ1.alloc (.cells #[.int .i64 0] 3)
    have hb3 := hb2.alloc hs2 (.cells #[.int .i64 0] 3)
    have z0 := hZ2.cell 0
    have zf := hZ2.free 0
    have zl := hZ2.lt
    go_wp2_with fail
    have q0 : ((w1.alloc (.cells #[.int .i64 0] 3)).setCell ⟨w.heap.size + 1 + 1, 0, none⟩ (.slice none 0 0)).cell? ⟨w.heap.size + 1 + 1, 0, none⟩ = some (.slice none 0 0) := (hZ2.set 0 _).cell 0
    exact bodyPost_ret (v := .tuple #[.agg #[.slice none 0 0], .int .i64 c]) (by simp [results, Tryz.results58, go_sem, q0]) rfl ⟨_, by rw [hE.out], by rw [hE.out]; exact TreeRow.nil _ _, hb3.setCell (p := ⟨w.heap.size + 1 + 1, 0, none⟩) (by simp; omega) _⟩
  · rw [hbe] at hbg
    have HBG := Lib.hid hbg
    have hE := Lib.hid (show addT T s name = if nameT name.data.toList = false then ([], 1) else if T.any (sameKid (k : Int) name) = true then ([], 5) else if 8 ≤ depF T T.length (k : Int) then ([], 2) else if 120 ≤ T.length then ([], 3) else (sortedT (T ++ [⟨k, name, []⟩]), 0) from by
      unfold addT; rw [hbe, if_neg (by simp)])
    have hln := limits_len (check_limits hck)
    have hnm := check_named hck
    have HPS := Lib.hid (check_props hck)
    obtain ⟨hl1, hl2⟩ := hln
    have hlv := Lib.hid (fun wx hx => tree_depth (fun g => g < w.heap.size) (.slice a T.length cap) T k wx hx hnm (by omega) (by omega) (by omega))
    have HPAR := Lib.hid (par_of_named hnm)
    have HROOT := Lib.hid (named_root hnm hl1)
    have HDIS := Lib.hid (dis_check hck)
    have hdc := deep_check hck k hk
    have hnt := fun wx => token_Name name wx (by unfold maxLen; omega)
    clear hbg hbe hck hnm
    cases hnb : nameT name.data.toList with
    | false =>
      have hF := Lib.hid (show addT T s name = ([], 1) from by rw [hE.out, if_pos hnb])
      rw [hnb] at hnt
      have HNT := Lib.hid hnt
      clear hnt hnb hE
      go_enter Tryz.func58, Tryz.ntmps58
      go_wp2_with fail
      refine (HBG.out _ (by exact HT.out.new hb0)).mono ?_
      rintro e w1 ⟨rfl, hb1⟩
      have hX1 := hX0.keeps (Keeps.of_fresh hb1 (fun _ => False)) (fun e => e)
      have hS1 := hS0.keeps (Keeps.of_fresh hb1 (fun _ => False)) (fun e => e)
      have hZ1 := hZ0.keeps (Keeps.of_fresh hb1 (fun _ => False)) (fun e => e)
      have hb2 := hb0.trans (hb1.mono (by simp; omega))
      have hs2 := hb2.size
      have hb3 := hb2.alloc hs2 (.cells #[.int .i64 (k : Int)] 3)
      have hX2 := hX1.alloc (.cells #[.int .i64 (k : Int)] 3)
      have hS2 := hS1.alloc (.cells #[.int .i64 (k : Int)] 3)
      have hZ2 := hZ1.alloc (.cells #[.int .i64 (k : Int)] 3)
      have hK2 := Holds.new w1 #[.int .i64 (k : Int)] 3
      have s0 := hS1.cell 0
      have sl := hS1.lt
      have x0 := hX1.cell 0
      have xl := hX1.lt
      go_wp2_with fail
      refine (HNT.out _).mono ?_
      rintro e w2 ⟨rfl, rfl⟩
      have z0 := hZ2.cell 0
      have zf := hZ2.free 0
      have zl := hZ2.lt
      go_wp2_with fail
      have q0 : ((w1.alloc (.cells #[.int .i64 (k : Int)] 3)).setCell ⟨w.heap.size + 1 + 1, 0, none⟩ (.slice none 0 0)).cell? ⟨w.heap.size + 1 + 1, 0, none⟩ = some (.slice none 0 0) := (hZ2.set 0 _).cell 0
      exact bodyPost_ret (v := .tuple #[.agg #[.slice none 0 0], .int .i64 1]) (by simp [results, Tryz.results58, go_sem, q0]) rfl ⟨_, by rw [hF.out], by rw [hF.out]; exact TreeRow.nil _ _, hb3.setCell (p := ⟨w.heap.size + 1 + 1, 0, none⟩) (by simp; omega) _⟩
    | true =>
      rw [hnb] at hnt
      have HNT := Lib.hid hnt
      have hcf := Lib.hid (fun kb wx hx h1 h2 => nodes_ContainsFunc (fun g => g < w.heap.size) (.slice a T.length cap) T k name kb (w.heap.size + 1) wx hx (by omega) h1 h2)
      clear hnt
      cases hany : T.any (sameKid (k : Int) name) with
      | true =>
        have hF := Lib.hid (show addT T s name = ([], 5) from by rw [hE.out, if_neg (by rw [hnb]; simp), if_pos hany])
        have HCF := Lib.hid (fun kb wx hx h1 h2 => hany ▸ hcf.out kb wx hx h1 h2)
        clear hnb hany hE hcf
        go_enter Tryz.func58, Tryz.ntmps58
        go_wp2_with fail
        refine (HBG.out _ (by exact HT.out.new hb0)).mono ?_
        rintro e w1 ⟨rfl, hb1⟩
        have hX1 := hX0.keeps (Keeps.of_fresh hb1 (fun _ => False)) (fun e => e)
        have hS1 := hS0.keeps (Keeps.of_fresh hb1 (fun _ => False)) (fun e => e)
        have hZ1 := hZ0.keeps (Keeps.of_fresh hb1 (fun _ => False)) (fun e => e)
        have hb2 := hb0.trans (hb1.mono (by simp; omega))
        have hs2 := hb2.size
        have hb3 := hb2.alloc hs2 (.cells #[.int .i64 (k : Int)] 3)
        have hX2 := hX1.alloc (.cells #[.int .i64 (k : Int)] 3)
        have hS2 := hS1.alloc (.cells #[.int .i64 (k : Int)] 3)
        have hZ2 := hZ1.alloc (.cells #[.int .i64 (k : Int)] 3)
        have hK2 := Holds.new w1 #[.int .i64 (k : Int)] 3
        have s0 := hS1.cell 0
        have sl := hS1.lt
        have x0 := hX1.cell 0
        have xl := hX1.lt
        go_wp2_with fail
        refine (HNT.out _).mono ?_
        rintro e w2 ⟨rfl, rfl⟩
        go_wp2_with fail
        refine (HCF.out w1.heap.size _ (by exact HT.out.new hb3) hK2 hS2).mono ?_
        rintro e w3 ⟨rfl, hb4⟩
        have kk := Keeps.of_fresh hb4 (fun _ => False)
        have hX3 := hX2.keeps kk (fun e => e)
        have hS3 := hS2.keeps kk (fun e => e)
        have hZ3 := hZ2.keeps kk (fun e => e)
        have hK3 := hK2.keeps kk (fun e => e)
        have hb5 := hb3.trans (hb4.mono (by simp; omega))
        have hs5 := hb5.size
        clear kk hb4 hX2 hS2 hZ2 hK2 hX1 hS1 hZ1 x0 xl s0 sl
        have z0 := hZ3.cell 0
        have zf := hZ3.free 0
        have zl := hZ3.lt
        go_wp2_with fail
        have q0 : (w3.setCell ⟨w.heap.size + 1 + 1, 0, none⟩ (.slice none 0 0)).cell? ⟨w.heap.size + 1 + 1, 0, none⟩ = some (.slice none 0 0) := (hZ3.set 0 _).cell 0
        exact bodyPost_ret (v := .tuple #[.agg #[.slice none 0 0], .int .i64 5]) (by simp [results, Tryz.results58, go_sem, q0]) rfl ⟨_, by rw [hF.out], by rw [hF.out]; exact TreeRow.nil _ _, hb5.setCell (p := ⟨w.heap.size + 1 + 1, 0, none⟩) (by simp; omega) _⟩
      | false =>
        have HCF := Lib.hid (fun kb wx hx h1 h2 => hany ▸ hcf.out kb wx hx h1 h2)
        have HANY := Lib.hid hany
        by_cases h8 : depF T T.length (k : Int) = 8
        · have hF := Lib.hid (show addT T s name = ([], 2) from by rw [hE.out, if_neg (by rw [hnb]; simp), if_neg (by rw [hany]; simp), if_pos (by omega)])
          have h8' : (((depF T T.length (k : Int) : Nat) : Int) == 8) = true := by rw [h8]; rfl
          clear hnb hany hE hcf h8
          go_enter Tryz.func58, Tryz.ntmps58
          go_wp2_with fail
          refine (HBG.out _ (by exact HT.out.new hb0)).mono ?_
          rintro e w1 ⟨rfl, hb1⟩
          have hX1 := hX0.keeps (Keeps.of_fresh hb1 (fun _ => False)) (fun e => e)
          have hS1 := hS0.keeps (Keeps.of_fresh hb1 (fun _ => False)) (fun e => e)
          have hZ1 := hZ0.keeps (Keeps.of_fresh hb1 (fun _ => False)) (fun e => e)
          have hb2 := hb0.trans (hb1.mono (by simp; omega))
          have hs2 := hb2.size
          have hb3 := hb2.alloc hs2 (.cells #[.int .i64 (k : Int)] 3)
          have hX2 := hX1.alloc (.cells #[.int .i64 (k : Int)] 3)
          have hS2 := hS1.alloc (.cells #[.int .i64 (k : Int)] 3)
          have hZ2 := hZ1.alloc (.cells #[.int .i64 (k : Int)] 3)
          have hK2 := Holds.new w1 #[.int .i64 (k : Int)] 3
          have s0 := hS1.cell 0
          have sl := hS1.lt
          have x0 := hX1.cell 0
          have xl := hX1.lt
          go_wp2_with fail
          refine (HNT.out _).mono ?_
          rintro e w2 ⟨rfl, rfl⟩
          go_wp2_with fail
          refine (HCF.out w1.heap.size _ (by exact HT.out.new hb3) hK2 hS2).mono ?_
          rintro e w3 ⟨rfl, hb4⟩
          have kk := Keeps.of_fresh hb4 (fun _ => False)
          have hX3 := hX2.keeps kk (fun e => e)
          have hS3 := hS2.keeps kk (fun e => e)
          have hZ3 := hZ2.keeps kk (fun e => e)
          have hK3 := hK2.keeps kk (fun e => e)
          have hb5 := hb3.trans (hb4.mono (by simp; omega))
          have hs5 := hb5.size
          clear kk hb4 hX2 hS2 hZ2 hK2 hX1 hS1 hZ1 x0 xl s0 sl
          have x0 := hX3.cell 0
          have k0 := hK3.cell 0
          go_wp2_with fail
          refine (hlv.out _ (by exact HT.out.new hb5)).mono ?_
          rintro e w4 ⟨rfl, hb6⟩
          have kk := Keeps.of_fresh hb6 (fun _ => False)
          have hX4 := hX3.keeps kk (fun e => e)
          have hS4 := hS3.keeps kk (fun e => e)
          have hZ4 := hZ3.keeps kk (fun e => e)
          have hK4 := hK3.keeps kk (fun e => e)
          have hb7 := hb5.trans (hb6.mono hs5)
          have hs7 := hb7.size
          clear kk hb6 hX3 hS3 hZ3 hK3 x0 k0
          have z0 := hZ4.cell 0
          have zf := hZ4.free 0
          have zl := hZ4.lt
          go_wp2_with fail
          have q0 : (w4.setCell ⟨w.heap.size + 1 + 1, 0, none⟩ (.slice none 0 0)).cell? ⟨w.heap.size + 1 + 1, 0, none⟩ = some (.slice none 0 0) := (hZ4.set 0 _).cell 0
          exact bodyPost_ret (v := .tuple #[.agg #[.slice none 0 0], .int .i64 2]) (by simp [results, Tryz.results58, go_sem, q0]) rfl ⟨_, by rw [hF.out], by rw [hF.out]; exact TreeRow.nil _ _, hb7.setCell (p := ⟨w.heap.size + 1 + 1, 0, none⟩) (by simp; omega) _⟩
        · have h8' : (((depF T T.length (k : Int) : Nat) : Int) == 8) = false := by rw [beq_eq_false_iff_ne]; omega
          by_cases h120 : T.length = 120
          · have hF := Lib.hid (show addT T s name = ([], 3) from by rw [hE.out, if_neg (by rw [hnb]; simp), if_neg (by rw [hany]; simp), if_neg (by omega), if_pos (by omega)])
            have h120' : ((T.length : Int) == 120) = true := by rw [h120]; rfl
            clear hnb hany hE hcf h8 h120
            go_enter Tryz.func58, Tryz.ntmps58
            go_wp2_with fail
            refine (HBG.out _ (by exact HT.out.new hb0)).mono ?_
            rintro e w1 ⟨rfl, hb1⟩
            have hX1 := hX0.keeps (Keeps.of_fresh hb1 (fun _ => False)) (fun e => e)
            have hS1 := hS0.keeps (Keeps.of_fresh hb1 (fun _ => False)) (fun e => e)
            have hZ1 := hZ0.keeps (Keeps.of_fresh hb1 (fun _ => False)) (fun e => e)
            have hb2 := hb0.trans (hb1.mono (by simp; omega))
            have hs2 := hb2.size
            have hb3 := hb2.alloc hs2 (.cells #[.int .i64 (k : Int)] 3)
            have hX2 := hX1.alloc (.cells #[.int .i64 (k : Int)] 3)
            have hS2 := hS1.alloc (.cells #[.int .i64 (k : Int)] 3)
            have hZ2 := hZ1.alloc (.cells #[.int .i64 (k : Int)] 3)
            have hK2 := Holds.new w1 #[.int .i64 (k : Int)] 3
            have s0 := hS1.cell 0
            have sl := hS1.lt
            have x0 := hX1.cell 0
            have xl := hX1.lt
            go_wp2_with fail
            refine (HNT.out _).mono ?_
            rintro e w2 ⟨rfl, rfl⟩
            go_wp2_with fail
            refine (HCF.out w1.heap.size _ (by exact HT.out.new hb3) hK2 hS2).mono ?_
            rintro e w3 ⟨rfl, hb4⟩
            have kk := Keeps.of_fresh hb4 (fun _ => False)
            have hX3 := hX2.keeps kk (fun e => e)
            have hS3 := hS2.keeps kk (fun e => e)
            have hZ3 := hZ2.keeps kk (fun e => e)
            have hK3 := hK2.keeps kk (fun e => e)
            have hb5 := hb3.trans (hb4.mono (by simp; omega))
            have hs5 := hb5.size
            clear kk hb4 hX2 hS2 hZ2 hK2 hX1 hS1 hZ1 x0 xl s0 sl
            have x0 := hX3.cell 0
            have k0 := hK3.cell 0
            go_wp2_with fail
            refine (hlv.out _ (by exact HT.out.new hb5)).mono ?_
            rintro e w4 ⟨rfl, hb6⟩
            have kk := Keeps.of_fresh hb6 (fun _ => False)
            have hX4 := hX3.keeps kk (fun e => e)
            have hS4 := hS3.keeps kk (fun e => e)
            have hZ4 := hZ3.keeps kk (fun e => e)
            have hK4 := hK3.keeps kk (fun e => e)
            have hb7 := hb5.trans (hb6.mono hs5)
            have hs7 := hb7.size
            clear kk hb6 hX3 hS3 hZ3 hK3 x0 k0
            have x0 := hX4.cell 0
            have z0 := hZ4.cell 0
            have zf := hZ4.free 0
            have zl := hZ4.lt
            go_wp2_with fail
            have q0 : (w4.setCell ⟨w.heap.size + 1 + 1, 0, none⟩ (.slice none 0 0)).cell? ⟨w.heap.size + 1 + 1, 0, none⟩ = some (.slice none 0 0) := (hZ4.set 0 _).cell 0
            exact bodyPost_ret (v := .tuple #[.agg #[.slice none 0 0], .int .i64 3]) (by simp [results, Tryz.results58, go_sem, q0]) rfl ⟨_, by rw [hF.out], by rw [hF.out]; exact TreeRow.nil _ _, hb7.setCell (p := ⟨w.heap.size + 1 + 1, 0, none⟩) (by simp; omega) _⟩
          · have hF := Lib.hid (show addT T s name = (sortedT (T ++ [⟨k, name, []⟩]), 0) from by rw [hE.out, if_neg (by rw [hnb]; simp), if_neg (by rw [hany]; simp), if_neg (by omega), if_neg (by omega)])
            have h120' : ((T.length : Int) == 120) = false := by rw [beq_eq_false_iff_ne]; omega
            clear hnb hany hE hcf h8 h120
            go_enter Tryz.func58, Tryz.ntmps58
            go_wp2_with fail
            refine (HBG.out _ (by exact HT.out.new hb0)).mono ?_
            rintro e w1 ⟨rfl, hb1⟩
            have hX1 := hX0.keeps (Keeps.of_fresh hb1 (fun _ => False)) (fun e => e)
            have hS1 := hS0.keeps (Keeps.of_fresh hb1 (fun _ => False)) (fun e => e)
            have hZ1 := hZ0.keeps (Keeps.of_fresh hb1 (fun _ => False)) (fun e => e)
            have hb2 := hb0.trans (hb1.mono (by simp; omega))
            have hs2 := hb2.size
            have hb3 := hb2.alloc hs2 (.cells #[.int .i64 (k : Int)] 3)
            have hX2 := hX1.alloc (.cells #[.int .i64 (k : Int)] 3)
            have hS2 := hS1.alloc (.cells #[.int .i64 (k : Int)] 3)
            have hZ2 := hZ1.alloc (.cells #[.int .i64 (k : Int)] 3)
            have hK2 := Holds.new w1 #[.int .i64 (k : Int)] 3
            have s0 := hS1.cell 0
            have sl := hS1.lt
            have x0 := hX1.cell 0
            have xl := hX1.lt
            go_wp2_with fail
            refine (HNT.out _).mono ?_
            rintro e w2 ⟨rfl, rfl⟩
            go_wp2_with fail
            refine (HCF.out w1.heap.size _ (by exact HT.out.new hb3) hK2 hS2).mono ?_
            rintro e w3 ⟨rfl, hb4⟩
            have kk := Keeps.of_fresh hb4 (fun _ => False)
            have hX3 := hX2.keeps kk (fun e => e)
            have hS3 := hS2.keeps kk (fun e => e)
            have hZ3 := hZ2.keeps kk (fun e => e)
            have hK3 := hK2.keeps kk (fun e => e)
            have hb5 := hb3.trans (hb4.mono (by simp; omega))
            have hs5 := hb5.size
            clear kk hb4 hX2 hS2 hZ2 hK2 hX1 hS1 hZ1 x0 xl s0 sl
            have x0 := hX3.cell 0
            have k0 := hK3.cell 0
            go_wp2_with fail
            refine (hlv.out _ (by exact HT.out.new hb5)).mono ?_
            rintro e w4 ⟨rfl, hb6⟩
            have kk := Keeps.of_fresh hb6 (fun _ => False)
            have hX4 := hX3.keeps kk (fun e => e)
            have hS4 := hS3.keeps kk (fun e => e)
            have hZ4 := hZ3.keeps kk (fun e => e)
            have hK4 := hK3.keeps kk (fun e => e)
            have hb7 := hb5.trans (hb6.mono hs5)
            have hs7 := hb7.size
            clear kk hb6 hX3 hS3 hZ3 hK3 x0 k0
            have x0 := hX4.cell 0
            obtain ⟨g, o, rfl⟩ : ∃ g o, a = some ⟨g, o, none⟩ := by
              obtain ⟨g, o, _, _, e, _⟩ := HT.out.at 0 hl1
              exact ⟨g, o, e⟩
            have hsh := shape_more (n := ⟨(k : Int), name, []⟩) (⟨hl1, HPAR.out, HROOT.out⟩ : Shape T) rfl hk
            have hdi := dis_more HDIS.out hk HANY.out
            have hpl : ∀ n ∈ T ++ [(⟨(k : Int), name, []⟩ : NodeT)], n.props.length ≤ 1000 := by
              intro n hn
              rcases List.mem_append.1 hn with hn | hn
              · have := HPS.out n hn; omega
              · simp at hn; subst hn; simp
            have HSH := Lib.hid hsh; have HDI := Lib.hid hdi; have HPL := Lib.hid hpl
            clear hsh hdi hpl
            go_wp2_with fail
            refine wp_region_any (by kernel_rfl) ?_
            refine wpAny_ops (ops' := addOps 12) (by kernel_rfl) ?_
            refine add_region12 (fun q => q < w.heap.size) w.heap.size w.heap.size w1.heap.size (w.heap.size + 1) g o cap k name T w4.drew _ _ rfl hl1 (by omega) hc1 (by exact hX4.lt) (fun q hq => by show q < w4.heap.size; omega) HSH.out HDI.out HPL.out ⟨hns, by show _ ≤ (k : Int); omega, by show (k : Int) ≤ _; omega⟩ rfl rfl rfl ⟨hX4, hK4, hS4, (HT.out.new hb7).new (Below.refl _ _).drew, Below.refl _ _, hs7⟩ ?_
            intro c w5 M tv hsb h10 hM hWM hTR hS5
            obtain ⟨x41, x42, x43, x44, x45, x46, x47, x48, x49, x50, x51, x52, x53, x54, x55, x56, x57, x58, x11, hc⟩ := hsb.exAt [41, 42, 43, 44, 45, 46, 47, 48, 49, 50, 51, 52, 53, 54, 55, 56, 57, 58, 11] 10 (by kernel_rfl)
            rw [h10] at hc
            subst hc
            simp only [List.setIfInBounds_toArray, List.set_cons_zero, List.set_cons_succ]
            obtain ⟨va, vc, rfl⟩ := tree_slice hTR
            have hb8 := hb7.trans (((Below.refl w4.heap.size w4).drew.trans (hS5.2.2.2.2.1)).mono hs7)
            have hZ5 := (hZ4.drew).keeps (Keeps.of_fresh hS5.2.2.2.2.1 (fun _ => False)) (fun e => e)
            have m0 := hM.cell 0
            have z0 := hZ5.cell 0
            have zf := hZ5.free 0
            have zl := hZ5.lt
            have q0 := (hZ5.set 0 (.slice va (sortedT (T ++ [(⟨(k : Int), name, []⟩ : NodeT)])).length vc)).cell 0
            have HFIN := Lib.hid (And.intro (hTR.set hZ5 (by decide) (by decide) 0 (.slice va (sortedT (T ++ [(⟨(k : Int), name, []⟩ : NodeT)])).length vc)) (hb8.setCell (p := ⟨w.heap.size + 1 + 1, 0, none⟩) (by simp; omega) (.slice va (sortedT (T ++ [(⟨(k : Int), name, []⟩ : NodeT)])).length vc)))
            clear hsb h10 hTR hS5 hb8
            generalize sortedT (T ++ [(⟨(k : Int), name, []⟩ : NodeT)]) = TT at *
            go_wp2_with fail
            exact bodyPost_ret (v := .tuple #[.agg #[.slice va TT.length vc], .int .i64 0]) (by simp [results, Tryz.results58, go_sem, q0]) rfl ⟨_, by rw [hF.out], by rw [hF.out]; exact HFIN.out.1, HFIN.out.2⟩
end Go.Proofs.YtjfkjnakmmkkiaaGreat

open Go
namespace Go.Proofs.YtjfkjnakmmkkiaaGreat

theorem sorted_facts {L : List NodeT} (h : Shape L) {i : Nat} (hi : i < L.length) : ∃ k, (ordT L)[i]? = some k ∧ k < L.length ∧ (ordT L).idxOf k = i ∧ nameOf (sortedT L) i = nameOf L k ∧ propsOf (sortedT L) i = propsOf L k ∧ (i = 0 → k = 0) ∧ (0 < i → 0 < k ∧ parOf (sortedT L) i = (((ordT L).idxOf (parN L k) : Nat) : Int) ∧ (ordT L).idxOf (parN L k) < i ∧ (ordT L)[(ordT L).idxOf (parN L k)]? = some (parN L k) ∧ parOf L k = (parN L k : Int)) := by
  obtain ⟨h0, hp, hr⟩ := h
  have hl := sorted_len hp h0
  have hol := ordT_len hp h0
  obtain ⟨h1, h2⟩ := ordT_spec hp h0
  have hnd := ltI_nodup h2
  have hio : i < (ordT L).length := by omega
  have his : i < (sortedT L).length := by omega
  have hk := (h1 _).1 (List.getElem_mem hio)
  refine ⟨(ordT L)[i], List.getElem?_eq_getElem hio, hk, idx_at hnd i hio, ?_, ?_, ?_, ?_⟩
  · rw [nameOf_at his, sorted_at i hio]; rfl
  · rw [propsOf_at his, sorted_at i hio]; rfl
  · rintro rfl; exact ord_zero h0 hio
  · intro hi0
    obtain ⟨hz, hlt⟩ := ord_par hp h0 hi0 hio
    have hpl := parN_lt hp (by omega : 0 < (ordT L)[i]) hk
    obtain ⟨hq, hqe⟩ := idx_get ((h1 (parN L (ordT L)[i])).2 (by omega))
    refine ⟨by omega, ?_, hlt, ?_, hpl.2.symm⟩
    · rw [parOf_at his, sorted_at i hio]; unfold moveT; simp only; rw [if_neg hz]
    · rw [List.getElem?_eq_getElem hq, hqe]
theorem sorted_dep {L : List NodeT} (h : Shape L) : ∀ (f i k : Nat), i < L.length → (ordT L)[i]? = some k → depF (sortedT L) f i = depF L f k := by
  intro f
  induction f with
  | zero => intro i k _ _; rfl
  | succ f ih =>
    intro i k hi hk
    obtain ⟨k', hk', hkl, _, _, _, hz, hs⟩ := sorted_facts h hi
    rw [hk] at hk'; cases hk'
    unfold depF
    by_cases hi0 : i = 0
    · subst hi0; rw [hz rfl]; simp
    · obtain ⟨k0, hpS, hlt, hg, hpL⟩ := hs (by omega)
      rw [if_pos (by omega), if_pos (by omega)]
      simp only [Int.toNat_natCast]
      rw [hpS, hpL, ih _ _ (by omega) hg]
theorem named_of : ∀ (T : List NodeT) (i : Nat), (∀ k (h : k < T.length), headB (i + k) T[k] = true ∧ T[k].props.all (fun p => propB p.name) = true) → namedF i T = true := by
  intro T
  induction T with
  | nil => intro i _; rfl
  | cons n r ih =>
    intro i h
    rw [namedF_cons, Bool.and_eq_true, Bool.and_eq_true]
    refine ⟨h 0 (by simp), ih _ (fun k hk => ?_)⟩
    have := h (k + 1) (by simpa using hk)
    rw [show i + 1 + k = i + (k + 1) from by omega]; exact this
theorem sorted_named {L : List NodeT} (h : Shape L) (hn : namedT L = true) : namedT (sortedT L) = true := by
  have hl := sorted_len h.2.1 h.1
  have hsh := shape_sorted h
  refine named_of _ 0 (fun i hi => ?_)
  have hiL : i < L.length := by omega
  obtain ⟨k, hk, hkl, _, hnm, hpr, hz, hs⟩ := sorted_facts h hiL
  obtain ⟨a1, a2⟩ := named_at L 0 hn k hkl
  rw [nameOf_at hi, nameOf_at hkl] at hnm
  rw [propsOf_at hi, propsOf_at hkl] at hpr
  rw [Nat.zero_add] at a1 ⊢
  refine ⟨?_, by rw [hpr]; exact a2⟩
  unfold headB at a1 ⊢
  rw [hnm]
  by_cases hi0 : i = 0
  · subst hi0
    obtain rfl := hz rfl
    have := hsh.2.2
    rw [parOf_at hi] at this
    rw [if_pos rfl] at a1 ⊢
    rw [this]
    simp only [Bool.and_eq_true] at a1 ⊢
    exact ⟨by simp, a1.2⟩
  · obtain ⟨k0, hpS, hlt, _, _⟩ := hs (by omega)
    rw [if_neg (by omega)] at a1
    rw [if_neg hi0]
    simp only [Bool.and_eq_true] at a1 ⊢
    rw [parOf_at hi] at hpS
    refine ⟨?_, a1.2⟩
    rw [hpS]; simp; omega
theorem sorted_twin {L : List NodeT} (h : Shape L) (hn : namedT L = true) (hD : Dis L) : twinT (sortedT L) = false := by
  have hl := sorted_len h.2.1 h.1
  rw [twin_dup (sorted_named h hn)]
  unfold dupAny
  rw [List.any_eq_false]
  intro i hi hd
  rw [List.mem_range] at hi
  obtain ⟨c, c0, ci, hp, hm⟩ := (dupF_iff _ i i).1 hd
  obtain ⟨k, hk, hkl, hid, hnm, _, _, hs⟩ := sorted_facts h (show i < L.length by omega)
  obtain ⟨k', hk', hkl', hid', hnm', _, _, hs'⟩ := sorted_facts h (show c < L.length by omega)
  obtain ⟨k0, hpS, hlt, hg, hpL⟩ := hs (by omega)
  obtain ⟨k0', hpS', hlt', hg', hpL'⟩ := hs' c0
  rw [hpS, hpS'] at hp
  have e : (ordT L).idxOf (parN L k') = (ordT L).idxOf (parN L k) := by omega
  rw [e, hg] at hg'
  have e2 : parN L k' = parN L k := (Option.some.inj hg').symm
  have := hD k' k k0' hkl' k0 hkl (by rw [hpL, hpL', e2]) (by rw [← hnm, ← hnm', hm])
  rw [this, hid] at hid'
  omega
theorem sorted_deep {L : List NodeT} (h : Shape L) (hd : ∀ k, k < L.length → depF L L.length k ≤ 8) : deepT (sortedT L) = false := by
  have hl := sorted_len h.2.1 h.1
  unfold deepT
  rw [List.any_eq_false]
  intro i hi
  rw [List.mem_range] at hi
  obtain ⟨k, hk, hkl, _⟩ := sorted_facts h (show i < L.length by omega)
  unfold depT
  rw [hl, sorted_dep h _ i k (by omega) hk]
  have := hd k hkl
  simp; omega
theorem sorted_mem {L : List NodeT} (h : Shape L) {n : NodeT} (hn : n ∈ sortedT L) : ∃ m ∈ L, n.props = m.props := by
  unfold sortedT at hn
  obtain ⟨k, hk, rfl⟩ := List.mem_map.1 hn
  have hk' := ((ordT_spec h.2.1 h.1).1 k).1 hk
  exact ⟨L[k], List.getElem_mem hk', propsOf_at hk'⟩
end Go.Proofs.YtjfkjnakmmkkiaaGreat

namespace Go.Proofs.YtjfkjnakmmkkiaaGreat
open Go.RowKit

/-- The tree of the root alone. -/
def rootT : List NodeT := [⟨-1, ⟨#[]⟩, []⟩]
theorem root_row (w : World) (base B : Nat) (hB : w.heap.size = B) (hb : base ≤ B) : TreeRow (w.alloc (.cells #[.int .i64 (-1), .string ⟨#[]⟩, .slice none 0 0] 76)) base (.slice (some ⟨B, 0, none⟩) 1 1) rootT := by
  subst hB
  refine ⟨[.slice none 0 0], rfl, World.ownsRow_lit w #[.int .i64 (-1), .string ⟨#[]⟩, .slice none 0 0] 1 hb (by decide) (by decide), ?_, ?_⟩
  · intro k hk hk2
    obtain rfl : k = 0 := by simp [rootT] at hk; exact hk
    exact PropRow.nil _ _
  · intro m hm
    simp only [rootT, List.mem_singleton] at hm
    subst hm
    unfold NodeOk; decide

set_option maxHeartbeats 1000000 in
theorem law03_root (w : World) : Calls Tryz.prog 56 #[] w fun e w' => ∃ v, e = .returned (.agg #[v]) ∧ TreeRow w' w.heap.size v rootT ∧ Below w.heap.size w w' := by
  have hb1 : Below w.heap.size w (w.alloc (.cells #[.slice (some ⟨w.heap.size + 1, 0, none⟩) 1 1] 25)) := (Below.refl _ _).alloc (Nat.le_refl _) _
  have hr := root_row (w.alloc (.cells #[.slice (some ⟨w.heap.size + 1, 0, none⟩) 1 1] 25)) w.heap.size (w.heap.size + 1) (by simp) (by omega)
  have hZ := (Holds.new w #[.slice (some ⟨w.heap.size + 1, 0, none⟩) 1 1] 25).alloc (.cells #[.int .i64 (-1), .string ⟨#[]⟩, .slice none 0 0] 76)
  have hb2 := (hb1.alloc (by simp) (.cells #[.int .i64 (-1), .string ⟨#[]⟩, .slice none 0 0] 76))
  have q0 := hZ.cell 0
  have HF := Lib.hid (And.intro hr hb2)
  clear hr hb1 hb2 hZ
  go_enter Tryz.func56, Tryz.ntmps56
  go_wp2_with fail
  exact bodyPost_ret (v := .agg #[.slice (some ⟨w.heap.size + 1, 0, none⟩) 1 1]) (by simp [results, Tryz.results56, go_sem, q0]) rfl ⟨_, rfl, HF.out.1, HF.out.2⟩

def tB1 : List NodeT := [⟨-1, ⟨#[]⟩, []⟩, ⟨0, ⟨#[98]⟩, []⟩]
def tB2 : List NodeT := [⟨-1, ⟨#[]⟩, []⟩, ⟨0, ⟨#[98]⟩, []⟩, ⟨1, ⟨#[99]⟩, []⟩]
def tB3 : List NodeT := [⟨-1, ⟨#[]⟩, []⟩, ⟨0, ⟨#[97]⟩, []⟩, ⟨0, ⟨#[98]⟩, []⟩, ⟨2, ⟨#[99]⟩, []⟩]
theorem add_b1 : addT rootT ⟨#[47]⟩ ⟨#[98]⟩ = (tB1, 0) := by kernel_rfl
theorem add_b2 : addT tB1 ⟨#[47, 98]⟩ ⟨#[99]⟩ = (tB2, 0) := by kernel_rfl
theorem add_b3 : addT tB2 ⟨#[47]⟩ ⟨#[97]⟩ = (tB3, 0) := by kernel_rfl
theorem find_b3 : rFindT tB3 ⟨#[47, 98, 47, 99]⟩ = (3, true) := by kernel_rfl
theorem path_b3 : pathQ tB3 3 = ⟨#[47, 98, 47, 99]⟩ := by kernel_rfl
end Go.Proofs.YtjfkjnakmmkkiaaGreat

open Go
namespace Go.Proofs.YtjfkjnakmmkkiaaGreat

theorem ltP_map (g : Comp → Comp) : ∀ (p q : List Comp), (∀ r x y p' q', p = r ++ x :: p' → q = r ++ y :: q' → ltC x y → ltC (g x) (g y)) → ltP p q → ltP (p.map g) (q.map g)
  | [], [], _, h => h.elim
  | [], _ :: _, _, _ => trivial
  | _ :: _, [], _, h => h.elim
  | a :: p, b :: q, H, h => by
    rcases h with h | ⟨rfl, h⟩
    · exact .inl (H [] a b p q rfl rfl h)
    · exact .inr ⟨rfl, ltP_map g p q (fun r x y p' q' e1 e2 => H (a :: r) x y p' q' (by rw [e1]; rfl) (by rw [e2]; rfl)) h⟩
theorem pc_part {L : List NodeT} (h : Par L) : ∀ (n a : Nat), a ≤ n → a < L.length → ∀ (r : List Comp) (x : Comp) (p' : List Comp), pc L a = r ++ x :: p' → 0 < x.2 ∧ x.2 < L.length ∧ x.1 = nameOf L x.2 ∧ pc L (parN L x.2) = r := by
  intro n
  induction n with
  | zero => intro a ha _ r x p' e; obtain rfl : a = 0 := by omega
            rw [pc_zero] at e; simp at e
  | succ n ih =>
    intro a ha hal r x p' e
    by_cases h0 : a = 0
    · subst h0; rw [pc_zero] at e; simp at e
    · have hp := parN_lt h (by omega) hal
      rw [pc_succ h (by omega) hal] at e
      rcases List.eq_nil_or_concat p' with rfl | ⟨q, b, rfl⟩
      · obtain ⟨e1, e2⟩ := List.append_inj' e rfl
        cases e2
        exact ⟨by show 0 < a; omega, hal, rfl, e1⟩
      · rw [show r ++ x :: (q.concat b) = (r ++ x :: q) ++ [b] from by simp] at e
        obtain ⟨e1, _⟩ := List.append_inj' e rfl
        exact ih _ (by omega) (by omega) r x q e1
theorem pc_sorted {L : List NodeT} (h : Shape L) : ∀ (n i k : Nat), i ≤ n → i < L.length → (ordT L)[i]? = some k → pc (sortedT L) i = (pc L k).map (fun c => (c.1, (ordT L).idxOf c.2)) := by
  have hl := sorted_len h.2.1 h.1
  have hsh := shape_sorted h
  intro n
  induction n with
  | zero =>
    intro i k hi hil hk
    obtain rfl : i = 0 := by omega
    obtain ⟨k', hk', _, _, _, _, hz, _⟩ := sorted_facts h hil
    rw [hk] at hk'; cases hk'
    rw [hz rfl]; rfl
  | succ n ih =>
    intro i k hi hil hk
    obtain ⟨k', hk', hkl, hid, hnm, _, hz, hs⟩ := sorted_facts h hil
    rw [hk] at hk'; cases hk'
    by_cases h0 : i = 0
    · subst h0; rw [hz rfl]; rfl
    · obtain ⟨k0, hpS, hlt, hg, hpL⟩ := hs (by omega)
      rw [pc_succ hsh.2.1 (by omega) (by omega), pc_succ h.2.1 k0 hkl, List.map_append]
      have e : parN (sortedT L) i = (ordT L).idxOf (parN L k) := by
        show (parOf (sortedT L) i).toNat = _
        rw [hpS]; simp
      rw [e, ih _ _ (by omega) (by omega) hg, hnm]
      simp [hid]
theorem sorted_asc {L : List NodeT} (h : Shape L) (hD : Dis L) : Asc (sortedT L) := by
  have hl := sorted_len h.2.1 h.1
  have hol := ordT_len h.2.1 h.1
  obtain ⟨h1, h2⟩ := ordT_spec h.2.1 h.1
  intro i h0 hi
  have hiL : i < L.length := by omega
  have hp := (List.pairwise_iff_getElem.1 h2) (i - 1) i (by omega) (by omega) (by omega)
  unfold ltI at hp ⊢
  have ha := (h1 _).1 (List.getElem_mem (show i - 1 < (ordT L).length by omega))
  have hb := (h1 _).1 (List.getElem_mem (show i < (ordT L).length by omega))
  rw [pc_sorted h _ (i - 1) _ (Nat.le_refl _) (by omega) (List.getElem?_eq_getElem (by omega)), pc_sorted h _ i _ (Nat.le_refl _) hiL (List.getElem?_eq_getElem (by omega))]
  refine ltP_map _ _ _ (fun r x y p' q' e1 e2 hc => ?_) hp
  obtain ⟨x0, xl, xn, xp⟩ := pc_part h.2.1 _ _ (Nat.le_refl _) ha r x p' e1
  obtain ⟨y0, yl, yn, yp⟩ := pc_part h.2.1 _ _ (Nat.le_refl _) hb r y q' e2
  rcases hc with hc | ⟨hc, hc2⟩
  · exact .inl hc
  · exfalso
    have px := parN_lt h.2.1 x0 xl
    have py := parN_lt h.2.1 y0 yl
    have e := pc_inj h.2.1 (show parN L x.2 < L.length by omega) (show parN L y.2 < L.length by omega) (xp.trans yp.symm)
    have := hD x.2 y.2 x0 xl y0 yl (by rw [← px.2, ← py.2, e]) (by rw [← xn, ← yn, hc])
    omega
theorem sorted_valid {L : List NodeT} (h : Shape L) (hD : Dis L) (hn : namedT L = true) (hlen : L.length ≤ 120) (hf : ∀ m ∈ L, fitB m = true) (ha : ∀ m ∈ L, ascT m.props = true) (hd : ∀ k, k < L.length → depF L L.length k ≤ 8) : checkT (sortedT L) = 0 := by
  have hl := sorted_len h.2.1 h.1
  have h0 := h.1
  have hsh := shape_sorted h
  refine check_of ⟨?_, sorted_named h hn, ?_, sorted_twin h hn hD, sorted_deep h hd⟩
  · unfold limitsT
    rw [Bool.and_eq_true, List.all_eq_true]
    refine ⟨by simp; omega, fun n hn => ?_⟩
    obtain ⟨m, hm, e⟩ := sorted_mem h hn
    have := hf m hm
    unfold fitB at this ⊢
    rw [e]; exact this
  · refine (walked_iff hsh.2.1 hsh.2.2).2 ⟨fun j hj => ?_, sorted_asc h hD⟩
    rw [propsOf_at hj]
    obtain ⟨m, hm, e⟩ := sorted_mem h (List.getElem_mem hj)
    rw [e]; exact ha m hm
theorem dep_fuel {T : List NodeT} (h : Par T) : ∀ (n i f : Nat), i ≤ n → i < T.length → i ≤ f → depF T f i = depF T i i := by
  intro n
  induction n with
  | zero => intro i f hi _ _; obtain rfl : i = 0 := by omega
            cases f <;> simp [depF]
  | succ n ih =>
    intro i f hi hil hf
    by_cases h0 : i = 0
    · subst h0; cases f <;> simp [depF]
    · obtain ⟨i, rfl⟩ : ∃ j, i = j + 1 := ⟨i - 1, by omega⟩
      obtain ⟨f, rfl⟩ : ∃ j, f = j + 1 := ⟨f - 1, by omega⟩
      have hp := parN_lt h (by omega) hil
      unfold depF
      rw [if_pos (by omega), if_pos (by omega)]
      simp only [Int.toNat_natCast]
      rw [← hp.2, ih _ f (by omega) (by omega) (by omega), ih _ i (by omega) (by omega) (by omega)]
theorem dep_more {T : List NodeT} (n : NodeT) : ∀ (f i : Nat), Par T → i < T.length → depF (T ++ [n]) f i = depF T f i := by
  intro f
  induction f with
  | zero => intro i _ _; rfl
  | succ f ih =>
    intro i h hi
    unfold depF
    by_cases h0 : i = 0
    · subst h0; simp
    · have hp := parN_lt h (by omega) hi
      rw [if_pos (by omega), if_pos (by omega)]
      simp only [Int.toNat_natCast]
      have e : parOf (T ++ [n]) i = parOf T i := by unfold parOf; rw [List.getElem?_append_left hi]
      rw [e, ← hp.2, ih _ h (by omega)]
theorem more_valid {T : List NodeT} (hc : checkT T = 0) {k : Nat} {name : ByteArray} (hk : k < T.length) (hn : nameT name.data.toList = true) (ha : T.any (sameKid (k : Int) name) = false) (hd : depF T T.length (k : Int) < 8) (hl : T.length < 120) : checkT (sortedT (T ++ [⟨(k : Int), name, []⟩])) = 0 := by
  obtain ⟨h1, h2, h3, h4, h5⟩ := check_parts hc
  have h0 : 0 < T.length := by omega
  have hp := par_of_named h2
  have hsT : Shape T := ⟨h0, hp, named_root h2 h0⟩
  have hs := shape_more hsT (n := ⟨(k : Int), name, []⟩) rfl hk
  have hf : ∀ m ∈ T, fitB m = true := by
    unfold limitsT at h1
    rw [Bool.and_eq_true, List.all_eq_true] at h1
    exact h1.2
  refine sorted_valid hs (dis_more (dis_check hc) hk ha) ?_ (by simp; omega) ?_ ?_ ?_
  · refine named_of _ 0 (fun i hi => ?_)
    rw [Nat.zero_add]
    by_cases hiT : i < T.length
    · rw [List.getElem_append_left hiT]
      have := named_at T 0 h2 i hiT
      rw [Nat.zero_add] at this; exact this
    · obtain rfl : i = T.length := by simp at hi; omega
      rw [List.getElem_append_right (Nat.le_refl _)]
      simp only [Nat.sub_self, List.getElem_cons_zero, List.all_nil, and_true]
      unfold headB
      rw [if_neg (by omega)]
      simp [hn]; omega
  · intro m hm
    rcases List.mem_append.1 hm with h | h
    · exact hf m h
    · simp at h; subst h; rfl
  · intro m hm
    rcases List.mem_append.1 hm with h | h
    · exact check_asc hc m h
    · simp at h; subst h; rfl
  · intro i hi
    have hlen : (T ++ [(⟨(k : Int), name, []⟩ : NodeT)]).length = T.length + 1 := by simp
    rw [hlen] at hi ⊢
    have hT : ∀ j, j < T.length → ∀ f, j ≤ f → depF (T ++ [(⟨(k : Int), name, []⟩ : NodeT)]) f j = depF T T.length j := by
      intro j hj f hf
      rw [dep_more _ _ _ hp hj, dep_fuel hp _ j f (Nat.le_refl _) hj hf, dep_fuel hp _ j T.length (Nat.le_refl _) hj (by omega)]
    by_cases hiT : i < T.length
    · rw [hT i hiT _ (by omega)]; exact deep_check hc i hiT
    · obtain rfl : i = T.length := by omega
      have e : parOf (T ++ [(⟨(k : Int), name, []⟩ : NodeT)]) T.length = (k : Int) := by unfold parOf; simp
      unfold depF
      rw [if_pos (by omega)]
      simp only [Int.toNat_natCast]
      rw [e, hT k hk _ (by omega)]
      omega
theorem add_valid {T : List NodeT} {s name : ByteArray} (he : (addT T s name).2 = 0) : checkT (addT T s name).1 = 0 ∧ (addT T s name).1.length = T.length + 1 := by
  unfold addT at he ⊢
  rcases begin_cases T s with ⟨hb, _⟩ | ⟨hc, k, hk, hb, _⟩
  · rw [if_pos hb] at he; exact absurd he hb
  · rw [hb] at he ⊢
    rw [if_neg (by simp)] at he ⊢
    by_cases h1 : nameT name.data.toList = false
    · rw [if_pos h1] at he; simp at he
    rw [if_neg h1] at he ⊢
    by_cases h2 : T.any (sameKid ((k : Int), (0 : Int)).1 name) = true
    · rw [if_pos h2] at he; simp at he
    rw [if_neg h2] at he ⊢
    by_cases h3 : 8 ≤ depF T T.length ((k : Int), (0 : Int)).1
    · rw [if_pos h3] at he; simp at he
    rw [if_neg h3] at he ⊢
    by_cases h4 : 120 ≤ T.length
    · rw [if_pos h4] at he; simp at he
    rw [if_neg h4]
    have h2' := named_root (check_parts hc).2.1 (by omega)
    refine ⟨more_valid hc hk (by simpa using h1) (by simpa using h2) (Nat.lt_of_not_le h3) (by omega), ?_⟩
    have hs := shape_more (T := T) ⟨by omega, par_of_named (check_parts hc).2.1, h2'⟩ (n := ⟨(k : Int), name, []⟩) rfl hk
    show (sortedT _).length = _
    rw [sorted_len hs.2.1 hs.1]; simp
theorem root_valid : checkT rootT = 0 := by kernel_rfl
end Go.Proofs.YtjfkjnakmmkkiaaGreat

namespace Go.Proofs.YtjfkjnakmmkkiaaGreat
open Go.RowKit

set_option maxRecDepth 100000 in
set_option maxHeartbeats 4000000 in
theorem law03_awake (w : World) : Calls Tryz.prog 32 #[] w fun e w' => e = .returned (.bool true) ∧ Below w.heap.size w w' := by
  have a1 := fun R v wx hx => tree_Add R v rootT ⟨#[47]⟩ ⟨#[98]⟩ wx hx (by decide)
  have a2 := fun R v wx hx => tree_Add R v tB1 ⟨#[47, 98]⟩ ⟨#[99]⟩ wx hx (by decide)
  have a3 := fun R v wx hx => tree_Add R v tB2 ⟨#[47]⟩ ⟨#[97]⟩ wx hx (by decide)
  unfold EditPost at a1 a2 a3
  rw [add_b1] at a1
  rw [add_b2] at a2
  rw [add_b3] at a3
  have A1 := Lib.hid a1; have A2 := Lib.hid a2; have A3 := Lib.hid a3
  have f3 := fun R v wx hx => tree_Find R v tB3 ⟨#[47, 98, 47, 99]⟩ wx hx
  rw [find_b3] at f3
  have F3 := Lib.hid f3
  have p3 := fun R v wx hx => tree_Path R v tB3 3 wx hx
  rw [path_b3] at p3
  have P3 := Lib.hid p3
  clear a1 a2 a3 f3 p3
  go_enter Tryz.func32, Tryz.ntmps32
  go_wp2_with fail
  refine (law03_root _).mono ?_
  rintro e w1 ⟨v1, rfl, hr1, hb1⟩
  go_wp2_with fail
  refine (A1.out (fun g => w.heap.size ≤ g) _ _ (by exact hr1.in)).mono ?_
  rintro e w2 ⟨v2, rfl, hr2, hb2⟩
  have hc2 := hb1.trans (hb2.mono hb1.size)
  obtain ⟨s2, c2, rfl⟩ := tree_slice hr2
  clear hr1 hb1 hb2 A1
  generalize w1.heap.size = B1 at *
  have hr2' := hr2.new ((Below.refl _ _).alloc (Nat.le_refl _) (.cells #[.slice s2 tB1.length c2] 25))
  have hd2 := hc2.alloc hc2.size (.cells #[.slice s2 tB1.length c2] 25)
  go_wp2_with fail
  refine (A2.out (fun g => B1 ≤ g) _ _ (by exact hr2'.in)).mono ?_
  rintro e w3 ⟨v3, rfl, hr3, hb3⟩
  have hc3 := hd2.trans (hb3.mono hd2.size)
  obtain ⟨s3, c3, rfl⟩ := tree_slice hr3
  clear hr2 hr2' hd2 hb3 A2 hc2
  have hr3' := hr3.new ((Below.refl _ _).alloc (Nat.le_refl _) (.cells #[.slice s3 tB2.length c3] 25))
  have hd3 := hc3.alloc hc3.size (.cells #[.slice s3 tB2.length c3] 25)
  go_wp2_with fail
  refine (A3.out (fun g => (w2.alloc (.cells #[.slice s2 tB1.length c2] 25)).heap.size ≤ g) _ _ (by exact hr3'.in)).mono ?_
  rintro e w4 ⟨v4, rfl, hr4, hb4⟩
  have hc4 := hd3.trans (hb4.mono hd3.size)
  obtain ⟨s4, c4, rfl⟩ := tree_slice hr4
  clear hr3 hr3' hd3 hb4 A3 hc3
  have hN := (hr4.new ((Below.refl _ _).alloc (Nat.le_refl _) (.cells #[.slice s4 tB3.length c4] 25))).in.bound
  have hZ := Holds.new w4 #[.slice s4 tB3.length c4] 25
  have hd4 := hc4.alloc hc4.size (.cells #[.slice s4 tB3.length c4] 25)
  clear hr4
  go_wp2_with fail
  refine (F3.out _ _ _ (by exact hN)).mono ?_
  rintro e w5 ⟨rfl, hb5⟩
  have hN5 := hN.new hb5
  have hZ5 := hZ.keeps (Keeps.of_fresh hb5 (fun _ => False)) (fun e => e)
  have hc5 := hd4.trans (hb5.mono hd4.size)
  have z0 := hZ5.cell 0
  have zl := hZ5.lt
  have l4 : ((tB3.length : Int) == 4) = true := rfl
  have l4' : (3 : Int) < (tB3.length : Int) := by decide
  obtain ⟨g, o, pa, pc, rfl, hg, d0, -⟩ := hN5.at 3 (by decide)
  have hp3 : tB3[3].parent = 2 := rfl
  rw [hp3] at d0
  clear hN hZ hd4 hb5 F3 hp3
  go_wp2_with fail
  refine (P3.out _ _ _ (by exact hN5)).mono ?_
  rintro e w6 ⟨rfl, hb6⟩
  go_wp2_with fail
  go_ret
  exact ⟨rfl, hc5.trans (hb6.mono hc5.size)⟩
end Go.Proofs.YtjfkjnakmmkkiaaGreat
