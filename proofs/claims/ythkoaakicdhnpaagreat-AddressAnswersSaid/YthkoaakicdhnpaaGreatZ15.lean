/- The law AddressOverlaps in plain Lean: how many pairs there are, counted node by node, and that each is in the list. | The drawn region of Overlaps of bringupref11 (two appends) (printed by gr11.py rover). | The drawn region of Overlaps of bringupref11 (have two regions a common address?) (printed by gr11.py rcommon). | Contracts of bringupgrow: Cells. | Contracts of bringuplaw11: number. | The tree of awake of bringuplaw11, in plain Lean. | awake of bringuplaw11. -/
import Derived.Test.YthkoaakicdhnpaaGreatZ9
import Derived.Test.YthkoaakicdhnpaaGreatZ2
import Derived.Test.YthkoaakicdhnpaaGreatZ3
import Derived.Laws.IdiomStrings
import Derived.Test.YthkoaakicdhnpaaGreatZ7

namespace Go.Proofs.YthkoaakicdhnpaaGreat
open Go.RowKit

def okT (T : List NodeT) (i : Nat) (x : Int × Int) : Bool := (translateT T i x.1 x.2).2
def cellN (T : List NodeT) (i k : Nat) (x y : Int × Int) : Nat :=
  if okT T i x = true ∧ okT T k y = true ∧ aboveT T i k = false ∧ commonB (translateT T i x.1 x.2).1 (translateT T k y.1 y.2).1 = true then 1 else 0
def rowQ (T : List NodeT) (i k : Nat) (x : Int × Int) : List (Int × Int) → Nat
  | [] => 0
  | y :: r => cellN T i k x y + rowQ T i k x r
def rowP (T : List NodeT) (i k : Nat) : List (Int × Int) → List (Int × Int) → Nat
  | [], _ => 0
  | x :: r, B => rowQ T i k x B + rowP T i k r B
def rowK (T : List NodeT) (i : Nat) (A : List (Int × Int)) : Nat → Nat → Nat
  | 0, _ => 0
  | f + 1, k => rowP T i k A (regionsT T k).1 + rowK T i A f (k + 1)
def rowI (T : List NodeT) : Nat → Nat → Nat
  | 0, _ => 0
  | f + 1, i => rowK T i (regionsT T i).1 f (i + 1) + rowI T f (i + 1)
def restQ (T : List NodeT) (i : Nat) (x : Int × Int) : Nat → Nat → Nat
  | 0, _ => 0
  | f + 1, k => rowQ T i k x (regionsT T k).1 + restQ T i x f (k + 1)
def sumX (T : List NodeT) (i f k : Nat) : List (Int × Int) → Nat
  | [] => 0
  | x :: r => (if okT T i x = true then restQ T i x f k else 0) + sumX T i f k r
theorem hitRow_app (T : List NodeT) (x : (Int × Int) × Int × Int) : ∀ a b, hitRow T x (a ++ b) = hitRow T x a ++ hitRow T x b := by
  intro a
  induction a with
  | nil => intro b; rfl
  | cons y r ih => intro b; simp only [List.cons_append, hitRow, ih, List.append_assoc]
theorem rowQ_not {T : List NodeT} {i k : Nat} {x : Int × Int} (h : ¬ okT T i x = true) : ∀ l, rowQ T i k x l = 0 := by
  intro l
  induction l with
  | nil => rfl
  | cons y r ih => simp only [rowQ, ih, cellN]; rw [if_neg (fun e => h e.1)]
theorem hr_row {T : List NodeT} {i k p : Nat} {x : Int × Int} (h : okT T i x = true) : ∀ l q, (hitRow T (((i : Int), (p : Int)), (translateT T i x.1 x.2).1) (foundRow T k q l)).length = rowQ T i k x l := by
  intro l
  induction l with
  | nil => intro q; rfl
  | cons y r ih =>
    intro q
    simp only [foundRow, rowQ]
    rw [hitRow_app, List.length_append, ih]
    congr 1
    unfold placeT cellN
    by_cases hy : okT T k y = true
    · have hy2 := hy
      unfold okT at hy2
      rw [if_pos hy2]
      simp only [hitRow, List.append_nil]
      have hb : hitB T (((i : Int), (p : Int)), (translateT T i x.1 x.2).1) (((k : Int), (q : Int)), (translateT T k y.1 y.2).1) = (commonB (translateT T i x.1 x.2).1 (translateT T k y.1 y.2).1 && !aboveT T i k) := rfl
      by_cases hh : hitB T (((i : Int), (p : Int)), (translateT T i x.1 x.2).1) (((k : Int), (q : Int)), (translateT T k y.1 y.2).1) = true
      · rw [if_pos hh]
        rw [hb] at hh
        simp only [Bool.and_eq_true, Bool.not_eq_true'] at hh
        rw [if_pos ⟨h, hy, hh.2, hh.1⟩]; rfl
      · rw [if_neg hh]
        rw [hb] at hh
        simp only [Bool.and_eq_true, Bool.not_eq_true'] at hh
        rw [if_neg (fun e => hh ⟨e.2.2.2, e.2.2.1⟩)]; rfl
    · have hy2 := hy
      unfold okT at hy2
      rw [if_neg hy2, if_neg (fun e => hy e.2.1)]; rfl
theorem hr_rest {T : List NodeT} {i p : Nat} {x : Int × Int} (h : okT T i x = true) : ∀ f k, (hitRow T (((i : Int), (p : Int)), (translateT T i x.1 x.2).1) (foundF T f k)).length = restQ T i x f k := by
  intro f
  induction f with
  | zero => intro k; rfl
  | succ f ih => intro k; simp only [foundF, restQ]; rw [hitRow_app, List.length_append, hr_row h, ih]
theorem above_self (T : List NodeT) (a : Int) : aboveT T a a = true := by
  unfold aboveT
  cases T.length with
  | zero => simp [aboveF]
  | succ n => simp [aboveF]
theorem hr_self (T : List NodeT) (i : Nat) (p : Int) (u : Int × Int) : ∀ l q, hitRow T (((i : Int), p), u) (foundRow T i q l) = [] := by
  intro l
  induction l with
  | nil => intro q; rfl
  | cons y r ih =>
    intro q
    simp only [foundRow]
    rw [hitRow_app, ih, List.append_nil]
    unfold placeT
    split
    · simp [hitRow, hitB, above_self]
    · rfl
theorem hits_row (T : List NodeT) (i f k : Nat) : ∀ l p, (hitsF T (foundRow T i p l ++ foundF T f k)).length = sumX T i f k l + (hitsF T (foundF T f k)).length := by
  intro l
  induction l with
  | nil => intro p; simp [foundRow, sumX]
  | cons x r ih =>
    intro p
    simp only [foundRow, sumX]
    by_cases h : okT T i x = true
    · have h2 := h
      unfold okT at h2
      rw [show placeT T i p x = [(((i : Int), (p : Int)), (translateT T i x.1 x.2).1)] from by unfold placeT; rw [if_pos h2]]
      rw [List.append_assoc, List.singleton_append, if_pos h]
      simp only [hitsF]
      rw [List.length_append, hitRow_app, hr_self, List.nil_append, hr_rest h, ih]; omega
    · have h2 := h
      unfold okT at h2
      rw [show placeT T i p x = [] from by unfold placeT; rw [if_neg h2], List.nil_append, if_neg h, ih]; omega
theorem sum_row (T : List NodeT) (i : Nat) : ∀ f k l, sumX T i f k l = rowK T i l f k := by
  intro f
  induction f with
  | zero =>
    intro k l
    induction l with
    | nil => rfl
    | cons x r ih => simp only [sumX, restQ, ite_self, ih, rowK]
  | succ f ih =>
    intro k l
    simp only [rowK]
    rw [← ih]
    induction l with
    | nil => rfl
    | cons x r ih2 =>
      simp only [sumX, rowP, restQ]
      rw [ih2]
      by_cases h : okT T i x = true
      · rw [if_pos h, if_pos h]; omega
      · rw [if_neg h, if_neg h, rowQ_not h]; omega
theorem rowI_hits (T : List NodeT) : ∀ f i, rowI T f i = (hitsF T (foundF T f i)).length := by
  intro f
  induction f with
  | zero => intro i; rfl
  | succ f ih => intro i; simp only [rowI, foundF]; rw [hits_row, ih, sum_row]
/-- The pair of two regions that meet is in the list. -/
theorem place_mem (T : List NodeT) (i : Nat) : ∀ (l : List (Int × Int)) (k p : Nat) (hp : p < l.length), okT T i l[p] = true → (((i : Int), ((k + p : Nat) : Int)), (translateT T i l[p].1 l[p].2).1) ∈ foundRow T i k l := by
  intro l
  induction l with
  | nil => intro k p hp; simp at hp
  | cons x r ih =>
    intro k p hp h
    simp only [foundRow]
    refine List.mem_append.2 ?_
    cases p with
    | zero =>
      left
      unfold placeT
      unfold okT at h
      simp only [List.getElem_cons_zero] at h ⊢
      rw [if_pos h]; simp
    | succ p =>
      right
      have := ih (k + 1) p (by simpa using hp) h
      rw [show k + (p + 1) = k + 1 + p from by omega]
      exact this
theorem hits_right (T : List NodeT) (b : List ((Int × Int) × Int × Int)) (z : (Int × Int) × Int × Int) (h : z ∈ hitsF T b) : ∀ a, z ∈ hitsF T (a ++ b) := by
  intro a
  induction a with
  | nil => exact h
  | cons x r ih => simp only [List.cons_append, hitsF]; exact List.mem_append.2 (.inr ih)
theorem hitRow_mem (T : List NodeT) (x y : (Int × Int) × Int × Int) (h : hitB T x y = true) : ∀ l, y ∈ l → (x.1, y.1) ∈ hitRow T x l := by
  intro l
  induction l with
  | nil => intro hy; simp at hy
  | cons z r ih =>
    intro hy
    simp only [hitRow]
    rcases List.mem_cons.1 hy with rfl | hy
    · rw [if_pos h]; simp
    · exact List.mem_append.2 (.inr (ih hy))
theorem hits_mem (T : List NodeT) (x y : (Int × Int) × Int × Int) (h : hitB T x y = true) (b : List ((Int × Int) × Int × Int)) (hy : y ∈ b) : ∀ a, x ∈ a → (x.1, y.1) ∈ hitsF T (a ++ b) := by
  intro a
  induction a with
  | nil => intro hx; simp at hx
  | cons z r ih =>
    intro hx
    simp only [List.cons_append, hitsF]
    rcases List.mem_cons.1 hx with rfl | hx
    · exact List.mem_append.2 (.inl (hitRow_mem T x y h _ (List.mem_append.2 (.inr hy))))
    · exact List.mem_append.2 (.inr (ih hx))
theorem found_mem (T : List NodeT) (k : Nat) (y : (Int × Int) × Int × Int) (hy : y ∈ foundRow T k 0 (regionsT T k).1) : ∀ f j, j ≤ k → k < j + f → y ∈ foundF T f j := by
  intro f
  induction f with
  | zero => intro j h1 h2; omega
  | succ f ih =>
    intro j h1 h2
    simp only [foundF]
    refine List.mem_append.2 ?_
    by_cases e : j = k
    · subst e; exact .inl hy
    · exact .inr (ih (j + 1) (by omega) (by omega))
theorem pair_mem (T : List NodeT) (i k : Nat) (x y : (Int × Int) × Int × Int) (hx : x ∈ foundRow T i 0 (regionsT T i).1) (hy : y ∈ foundRow T k 0 (regionsT T k).1) (hik : i < k) (h : hitB T x y = true) :
    ∀ f j, j ≤ i → k < j + f → (x.1, y.1) ∈ hitsF T (foundF T f j) := by
  intro f
  induction f with
  | zero => intro j h1 h2; omega
  | succ f ih =>
    intro j h1 h2
    simp only [foundF]
    by_cases e : j = i
    · subst e; exact hits_mem T x y h _ (found_mem T k y hy f (j + 1) (by omega) (by omega)) _ hx
    · exact hits_right T _ _ (ih (j + 1) (by omega) (by omega)) _
theorem cell_mem {T : List NodeT} {i k p q : Nat} (hik : i < k) (hk : k < T.length) (hp : p < (regionsT T i).1.length) (hq : q < (regionsT T k).1.length) (h : cellN T i k (regionsT T i).1[p] (regionsT T k).1[q] = 1) :
    (((i : Int), (p : Int)), ((k : Int), (q : Int))) ∈ hitsF T (foundT T) := by
  unfold cellN at h
  split at h
  · rename_i hh
    obtain ⟨h1, h2, h3, h4⟩ := hh
    have hx := place_mem T i _ 0 p hp h1
    have hy := place_mem T k _ 0 q hq h2
    rw [Nat.zero_add] at hx hy
    exact pair_mem T i k _ _ hx hy hik (by unfold hitB; simp only [h3, h4]; rfl) T.length 0 (Nat.zero_le _) (by omega)
  · cases h
/-- The statement's own test of what is above. -/
def ancF (T : List NodeT) (i : Int) : Nat → Int → Bool
  | 0, _ => false
  | f + 1, m => if 0 < m then (parOf T m.toNat == i) || ancF T i f (parOf T m.toNat) else false
theorem anc_low {T : List NodeT} (hn : ∀ m : Nat, 0 < m → m < T.length → 0 ≤ parOf T m ∧ parOf T m < m) (i : Int) : ∀ f (m : Nat), (m : Int) ≤ i → m < T.length → ancF T i f m = false := by
  intro f
  induction f with
  | zero => intro m _ _; rfl
  | succ f ih =>
    intro m h1 h2
    simp only [ancF]
    split
    · rename_i h0
      have hp := hn m (by omega) h2
      rw [Int.toNat_natCast]
      obtain ⟨u, hu⟩ := Int.eq_ofNat_of_zero_le hp.1
      rw [hu] at hp ⊢
      rw [ih u (by omega) (by omega), Bool.or_false, beq_eq_false_iff_ne]; omega
    · rfl
theorem anc_above {T : List NodeT} (hn : ∀ m : Nat, 0 < m → m < T.length → 0 ≤ parOf T m ∧ parOf T m < m) (i : Nat) : ∀ (m f g : Nat), i < m → m < T.length → m ≤ f → m ≤ g → ancF T i f m = aboveF T i g m := by
  intro m
  induction m using Nat.strongRecOn with
  | _ m ih =>
    intro f g h1 h2 hf hg
    obtain ⟨f, rfl⟩ : ∃ x, f = x + 1 := ⟨f - 1, by omega⟩
    obtain ⟨g, rfl⟩ : ∃ x, g = x + 1 := ⟨g - 1, by omega⟩
    simp only [ancF, aboveF]
    rw [if_pos (by omega), if_pos (by omega), Int.toNat_natCast]
    have hp := hn m (by omega) h2
    obtain ⟨u, hu⟩ := Int.eq_ofNat_of_zero_le hp.1
    rw [hu] at hp ⊢
    by_cases e : u = i
    · subst e
      rw [beq_self_eq_true, Bool.true_or]
      cases g with
      | zero => simp [aboveF]
      | succ g => simp [aboveF]
    · by_cases h3 : i < u
      · rw [ih u (by omega) f g h3 (by omega) (by omega) (by omega), (beq_eq_false_iff_ne).2 (by omega), Bool.false_or]
      · rw [anc_low hn i f u (by omega) (by omega), (beq_eq_false_iff_ne).2 (by omega), Bool.false_or]
        cases g with
        | zero => simp [aboveF]; omega
        | succ g => simp only [aboveF]; rw [if_neg (by omega)]; symm; rw [beq_eq_false_iff_ne]; omega
theorem common_iff {x y : Int × Int} (hx : RegOk x) (hy : RegOk y) : commonB x y = true ↔ (0 < x.2 ∧ 0 < y.2) ∧ ((y.1 ≤ x.1 ∧ x.1 < y.1 + y.2) ∨ (x.1 ≤ y.1 ∧ y.1 < x.1 + x.2)) := by
  unfold commonB RegOk at *
  rw [decide_eq_true_eq]
  omega
end Go.Proofs.YthkoaakicdhnpaaGreat

namespace Go.Proofs.YthkoaakicdhnpaaGreat
open Go.RowKit

noncomputable def rovOps : Array Oper := (regOps (Tryz.f17.body.getD .skip) 15).getD #[]
theorem rovR : inRow2 .any rovOps = true := by kernel_rfl
theorem rovRa : apartB rovOps = true := by kernel_rfl
theorem rovRn : rovOps.size = 12 := by kernel_rfl
theorem rov_apart {kv ov : Value} {gg H : Nat} (ha : kv.ownBlock = none ∨ kv.ownBlock ≠ ov.ownBlock) (hlt : ∀ g, kv.ownBlock = some g → g < H) (hat : ov.ownBlock = some gg ∨ gg = H) : kv.ownBlock ≠ some gg := by
  intro e
  rcases hat with h | h
  · rcases ha with k | k
    · rw [e] at k; cases k
    · exact k (e.trans h.symm)
  · have := hlt _ e; omega
def RovF (i q _ : Nat) (b s : Int) (base m : Nat) (xs : List Value) (v : Value) (ys : List Value) (v' : Value) (_ : Nat) (kv : Value) (_ : Nat) (_ : List Value) (j : Nat) : Value → World → Prop := match j with
  | 0 => fun u _ => u = v
  | 1 => fun u _ => u = .int .i64 i
  | 2 => fun u _ => u = .int .i64 q
  | 3 => fun u _ => u = .agg #[.int .i64 i, .int .i64 q]
  | 4 => fun u w => ∃ N, u = .slice (some ⟨N, 0, none⟩) 1 1 ∧ Holds w N ([.int .i64 i, .int .i64 q] : List Value).toArray 91 ∧ (v : Value).ownBlock ≠ some N ∧ (v' : Value).ownBlock ≠ some N
  | 5 => fun u w => ∃ g' c', u = (.slice (some ⟨g', 0, none⟩) (m + 1) c') ∧ w.ownsRow base 91 2 (.slice (some ⟨g', 0, none⟩) (m + 1) c') (m + 1) (xs ++ ([.int .i64 i, .int .i64 q] : List Value)) ∧ (kv : Value).ownBlock ≠ some g'
  | 6 => fun u _ => u = v'
  | 7 => fun u _ => u = .agg #[.int .i64 b, .int .i64 s]
  | 8 => fun u w => ∃ N, u = .slice (some ⟨N, 0, none⟩) 1 1 ∧ Holds w N ([.int .i64 b, .int .i64 s] : List Value).toArray 56 ∧ (v : Value).ownBlock ≠ some N ∧ (v' : Value).ownBlock ≠ some N
  | 9 => fun u w => ∃ g' c', u = (.slice (some ⟨g', 0, none⟩) (m + 1) c') ∧ w.ownsRow base 56 2 (.slice (some ⟨g', 0, none⟩) (m + 1) c') (m + 1) (ys ++ ([.int .i64 b, .int .i64 s] : List Value)) ∧ (kv : Value).ownBlock ≠ some g'
  | 10 => fun u w => ∃ g' c', u = (.slice (some ⟨g', 0, none⟩) (m + 1) c') ∧ w.ownsRow base 91 2 (.slice (some ⟨g', 0, none⟩) (m + 1) c') (m + 1) (xs ++ ([.int .i64 i, .int .i64 q] : List Value)) ∧ (kv : Value).ownBlock ≠ some g'
  | 11 => fun u w => ∃ g' c', u = (.slice (some ⟨g', 0, none⟩) (m + 1) c') ∧ w.ownsRow base 56 2 (.slice (some ⟨g', 0, none⟩) (m + 1) c') (m + 1) (ys ++ ([.int .i64 b, .int .i64 s] : List Value)) ∧ (kv : Value).ownBlock ≠ some g'
  | _ => fun _ _ => True
def RovX (_ _ Z : Nat) (b s : Int) (base m : Nat) (xs : List Value) (v : Value) (ys : List Value) (v' : Value) (kB : Nat) (kv : Value) (kn : Nat) (kx : List Value) (l : Array Bool) (w : World) : Prop := (l.getD 5 false = false → w.ownsRow base 91 2 (v) m (xs)) ∧ (l.getD 9 false = false → w.ownsRow base 56 2 (v') m (ys)) ∧ w.ownsRow kB 56 2 (kv) kn (kx) ∧ Holds w Z (#[.int .i64 b, .int .i64 s] : Array Value) 56
section
variable {i q Z : Nat} {b s : Int} {base m : Nat} {xs : List Value} {v : Value} {ys : List Value} {v' : Value} {kB : Nat} {kv : Value} {kn : Nat} {kx : List Value} {w w' : World} {j : Nat} {u : Value}
theorem RovF.new (h : RovF i q Z b s base m xs v ys v' kB kv kn kx j u w) (kb : Below w.heap.size w w') : RovF i q Z b s base m xs v ys v' kB kv kn kx j u w' := by
  unfold RovF at *
  have kk := Keeps.of_fresh kb (fun _ => False)
  split at h
  all_goals first
    | exact h
    | (obtain ⟨N, e, hN, r⟩ := h; exact ⟨N, e, hN.keeps kk (fun e => e), r⟩)
    | (obtain ⟨g', c', e, hr, hk⟩ := h; exact ⟨g', c', e, row_new hr kb, hk⟩)
theorem RovF.grow0 (h : RovF i q Z b s base m xs v ys v' kB kv kn kx j u w) (g2 : w.ownsRow base 91 2 (v) m (xs)) (k : w.grownBy w' (v : Value).ownBlock) (h10 : j ≠ 5) (h12 : j ≠ 10) : RovF i q Z b s base m xs v ys v' kB kv kn kx j u w' := by
  unfold RovF at *
  split at h
  all_goals first
    | exact absurd rfl h10
    | exact absurd rfl h12
    | exact h
    | (obtain ⟨N, e, hN, r⟩ := h; exact ⟨N, e, hN.grown k (r.1), r⟩)
    | (obtain ⟨g', c', e, hr, hk⟩ := h; exact ⟨g', c', e, hr.kept k (rows_apart hr g2 (by decide)), hk⟩)
theorem RovF.grow1 (h : RovF i q Z b s base m xs v ys v' kB kv kn kx j u w) (g2 : w.ownsRow base 56 2 (v') m (ys)) (k : w.grownBy w' (v' : Value).ownBlock) (h10 : j ≠ 9) (h12 : j ≠ 11) : RovF i q Z b s base m xs v ys v' kB kv kn kx j u w' := by
  unfold RovF at *
  split at h
  all_goals first
    | exact absurd rfl h10
    | exact absurd rfl h12
    | exact h
    | (obtain ⟨N, e, hN, r⟩ := h; exact ⟨N, e, hN.grown k (r.2), r⟩)
    | (obtain ⟨g', c', e, hr, hk⟩ := h; exact ⟨g', c', e, hr.kept k (rows_apart hr g2 (by decide)), hk⟩)
end

set_option maxHeartbeats 4000000 in
set_option maxRecDepth 100000 in
theorem rov_region {Q : Exit → Act → World → Prop} (i q Z : Nat) (b s : Int) (base m : Nat) (xs : List Value) (v : Value) (ys : List Value) (v' : Value) (kB : Nat) (kv : Value) (kn : Nat) (kx : List Value) (B0 : Nat) (W w : World) (A : Act) (hsz : A.tmps.size = 135) (hB0 : B0 ≤ W.heap.size) (hrb0 : B0 ≤ base) (hbase0 : base ≤ W.heap.size) (hn0 : m ≤ 1000000) (hrb1 : B0 ≤ base) (hbase1 : base ≤ W.heap.size) (_ : m ≤ 1000000) (hlt0 : ∀ g, (v : Value).ownBlock = some g → g < W.heap.size) (hlt1 : ∀ g, (v' : Value).ownBlock = some g → g < W.heap.size) (hka0 : (kv : Value).ownBlock = none ∨ (kv : Value).ownBlock ≠ (v : Value).ownBlock) (hka1 : (kv : Value).ownBlock = none ∨ (kv : Value).ownBlock ≠ (v' : Value).ownBlock) (hza0 : (v : Value).ownBlock ≠ some Z) (hza1 : (v' : Value).ownBlock ≠ some Z) 
    (a6 : A.tmps.getD 6 undef = v) (a7 : A.tmps.getD 7 undef = v') (a8 : A.tmps.getD 8 undef = .int .i64 i) (a11 : A.tmps.getD 11 undef = .int .i64 q) (a13 : A.tmps.getD 13 undef = .pointer (some ⟨Z, 0, none⟩))
    (hS : Below B0 W w) (hR0 : w.ownsRow base 91 2 (v) m (xs)) (hR1 : w.ownsRow base 56 2 (v') m (ys)) (hRK : w.ownsRow kB 56 2 (kv) kn (kx)) (hRH : Holds w Z (#[.int .i64 b, .int .i64 s] : Array Value) 56)
    (hQ : ∀ c w' v0 v1, SameBut rovOps A c → Below B0 W w' → c.tmps.getD 6 undef = v0 → w'.ownsRow base 91 2 v0 (m + 1) (xs ++ ([.int .i64 i, .int .i64 q] : List Value)) → (kv : Value).ownBlock ≠ (v0 : Value).ownBlock → c.tmps.getD 7 undef = v1 → w'.ownsRow base 56 2 v1 (m + 1) (ys ++ ([.int .i64 b, .int .i64 s] : List Value)) → (kv : Value).ownBlock ≠ (v1 : Value).ownBlock → w'.ownsRow kB 56 2 (kv) kn (kx) → Q .normal c w') :
    wpAny Tryz.prog .any rovOps Q rovOps.size (Array.replicate rovOps.size false) A w := by
  refine wpAny_inv2 (fun l c wx => RInv rovOps A (RovF i q Z b s base m xs v ys v' kB kv kn kx) (fun wx => Below B0 W wx) l c wx ∧ Fresh rovOps A l c ∧ RovX i q Z b s base m xs v ys v' kB kv kn kx l wx) rovR ?hend ?hstep _ _ _ _ (by simp) (by simp) ⟨RInv.start hS, fun _ _ _ _ => rfl, ⟨fun _ => hR0, fun _ => hR1, hRK, hRH⟩⟩
  case hend =>
    intro l c wx hI hl
    have hh : ∀ k, k < 12 → l.getD k false = true := fun k hk => hl k (by rw [rovRn]; exact hk)
    obtain ⟨g0, c0, h0, r0, k0⟩ : ∃ g' c', c.tmps.getD 6 undef = (.slice (some ⟨g', 0, none⟩) (m + 1) c') ∧ wx.ownsRow base 91 2 (.slice (some ⟨g', 0, none⟩) (m + 1) c') (m + 1) (xs ++ ([.int .i64 i, .int .i64 q] : List Value)) ∧ (kv : Value).ownBlock ≠ some g' := hI.1.fact 10 6 rfl (hh 10 (by decide))
    obtain ⟨g1, c1, h1, r1, k1⟩ : ∃ g' c', c.tmps.getD 7 undef = (.slice (some ⟨g', 0, none⟩) (m + 1) c') ∧ wx.ownsRow base 56 2 (.slice (some ⟨g', 0, none⟩) (m + 1) c') (m + 1) (ys ++ ([.int .i64 b, .int .i64 s] : List Value)) ∧ (kv : Value).ownBlock ≠ some g' := hI.1.fact 11 7 rfl (hh 11 (by decide))
    exact hQ c wx _ _ hI.1.1 hI.1.2.1 h0 r0 k0 h1 r1 k1 hI.2.2.2.2.1 
  intro l c wx hI i' op ho hl hall K' hK'
  have hi13 : i' < 12 := by rw [← rovRn]; exact (Array.getElem?_eq_some_iff.1 ho).1
  simp only [rovOps, regOps, Tryz.f17, Option.getD_some, reduceIte, Nat.reduceEqDiff] at ho
  have hS := hI.1.2.1
  have hBs : B0 ≤ wx.heap.size := Nat.le_trans hB0 hS.size
  have hWs : W.heap.size ≤ wx.heap.size := hS.size
  have s8 := (hI.1.slot 8 (by kernel_rfl)).trans a8
  have s11 := (hI.1.slot 11 (by kernel_rfl)).trans a11
  have s13 := (hI.1.slot 13 (by kernel_rfl)).trans a13
  simp only [Array.getD_eq_getD_getElem?] at s8 s11 s13
  have hic : i' = 0 ∨ i' = 1 ∨ i' = 2 ∨ i' = 3 ∨ i' = 4 ∨ i' = 5 ∨ i' = 6 ∨ i' = 7 ∨ i' = 8 ∨ i' = 9 ∨ i' = 10 ∨ i' = 11 := by omega
  rcases hic with rfl | rfl | rfl | rfl | rfl | rfl | rfl | rfl | rfl | rfl | rfl | rfl
  all_goals cases ho
  · have so := (hI.2.1 10 6 rfl (hI.1.2.2.1.2.unlisted (hI.1.2.2.1.2.unlisted hl (j := 5) (by kernel_rfl)) (j := 10) (by kernel_rfl))).trans a6
    simp only [Array.getD_eq_getD_getElem?] at so
    go_simp
    exact hK' _ _ ⟨hI.1.stepL rovRa 0 55 rfl (by rw [hsz]; decide) _ _ rfl hall hS (fun _ _ _ h => h) rfl, hI.2.1.put rovRa 0 55 rfl (by rw [hI.1.1.1, hsz]; decide) _ (by rw [hI.1.2.2.1.1]; exact dst_lt (show dstOf rovOps 0 = some 55 from rfl)), ⟨(fun e => hI.2.2.1 (listed_set e)), (fun e => hI.2.2.2.1 (listed_set e)), hI.2.2.2.2.1, hI.2.2.2.2.2⟩⟩
  · go_simp
    exact hK' _ _ ⟨hI.1.stepL rovRa 1 56 rfl (by rw [hsz]; decide) _ _ rfl hall hS (fun _ _ _ h => h) rfl, hI.2.1.put rovRa 1 56 rfl (by rw [hI.1.1.1, hsz]; decide) _ (by rw [hI.1.2.2.1.1]; exact dst_lt (show dstOf rovOps 1 = some 56 from rfl)), ⟨(fun e => hI.2.2.1 (listed_set e)), (fun e => hI.2.2.2.1 (listed_set e)), hI.2.2.2.2.1, hI.2.2.2.2.2⟩⟩
  · go_simp
    exact hK' _ _ ⟨hI.1.stepL rovRa 2 57 rfl (by rw [hsz]; decide) _ _ rfl hall hS (fun _ _ _ h => h) rfl, hI.2.1.put rovRa 2 57 rfl (by rw [hI.1.1.1, hsz]; decide) _ (by rw [hI.1.2.2.1.1]; exact dst_lt (show dstOf rovOps 2 = some 57 from rfl)), ⟨(fun e => hI.2.2.1 (listed_set e)), (fun e => hI.2.2.2.1 (listed_set e)), hI.2.2.2.2.1, hI.2.2.2.2.2⟩⟩
  · have e1 : c.tmps.getD 56 undef = .int .i64 i := hI.1.fact 1 56 rfl (listed hall 1 (by kernel_rfl))
    have f1 := e1
    simp only [Array.getD_eq_getD_getElem?] at e1
    have e2 : c.tmps.getD 57 undef = .int .i64 q := hI.1.fact 2 57 rfl (listed hall 2 (by kernel_rfl))
    have f2 := e2
    simp only [Array.getD_eq_getD_getElem?] at e2
    go_simp
    exact hK' _ _ ⟨hI.1.stepL rovRa 3 58 rfl (by rw [hsz]; decide) _ _ rfl hall hS (fun _ _ _ h => h) rfl, hI.2.1.put rovRa 3 58 rfl (by rw [hI.1.1.1, hsz]; decide) _ (by rw [hI.1.2.2.1.1]; exact dst_lt (show dstOf rovOps 3 = some 58 from rfl)), ⟨(fun e => hI.2.2.1 (listed_set e)), (fun e => hI.2.2.2.1 (listed_set e)), hI.2.2.2.2.1, hI.2.2.2.2.2⟩⟩
  · have e3 : c.tmps.getD 58 undef = .agg #[.int .i64 i, .int .i64 q] := hI.1.fact 3 58 rfl (listed hall 3 (by kernel_rfl))
    have f3 := e3
    simp only [Array.getD_eq_getD_getElem?] at e3
    have uA0 := hI.1.2.2.1.2.unlisted hl (j := 5) (by kernel_rfl)
    go_simp
    have hb2 : Below wx.heap.size wx (wx.alloc (.cells ([.int .i64 i, .int .i64 q] : List Value).toArray 91)) := (Below.refl _ _).alloc (Nat.le_refl _) _
    have hS2 := hS.alloc hBs (.cells ([.int .i64 i, .int .i64 q] : List Value).toArray 91)
    exact hK' _ _ ⟨hI.1.stepL rovRa 4 59 rfl (by rw [hsz]; decide) _ _ rfl hall hS2 (fun j _ u h => RovF.new h hb2) ⟨_, rfl, Holds.new _ _ _, fun e => Nat.lt_irrefl _ ((hI.2.2.1 uA0).lt _ e).2, fun e => Nat.lt_irrefl _ (Nat.lt_of_lt_of_le (hlt1 _ e) hWs)⟩, hI.2.1.put rovRa 4 59 rfl (by rw [hI.1.1.1, hsz]; decide) _ (by rw [hI.1.2.2.1.1]; exact dst_lt (show dstOf rovOps 4 = some 59 from rfl)), ⟨(fun e => row_new (hI.2.2.1 (listed_set e)) hb2), (fun e => row_new (hI.2.2.2.1 (listed_set e)) hb2), row_new hI.2.2.2.2.1 hb2, hI.2.2.2.2.2.keeps (Keeps.of_fresh hb2 (fun _ => False)) (fun e => e)⟩⟩
  · have e0 : c.tmps.getD 55 undef = v := hI.1.fact 0 55 rfl (listed hall 0 (by kernel_rfl))
    have f0 := e0
    simp only [Array.getD_eq_getD_getElem?] at e0
    obtain ⟨N, e9, hN, hNo⟩ : ∃ N, c.tmps.getD 59 undef = .slice (some ⟨N, 0, none⟩) 1 1 ∧ Holds wx N ([.int .i64 i, .int .i64 q] : List Value).toArray 91 ∧ (v : Value).ownBlock ≠ some N ∧ (v' : Value).ownBlock ≠ some N := hI.1.fact 4 59 rfl (listed hall 4 (by kernel_rfl))
    have g2 := hI.2.2.1 hl
    have uS := hI.1.2.2.1.2.unlisted hl (j := 10) (by kernel_rfl)
    obtain ⟨i0, hi, hz0, hz1, hz2⟩ := info_parts infoPlace
    refine step_append_lies _ (by rfl) _ _ _ (by rfl) base 91 i0 _ 2 16 Tryz.underlying97 hi hz0 hz1 hz2 rfl (by omega) (v) m (xs) (by exact f0) g2 ⟨N, 0, none⟩ 1 1 ([.int .i64 i, .int .i64 q]) (by exact e9) (by rfl) (World.news_of_block (cs := ([.int .i64 i, .int .i64 q] : List Value).toArray) (t := 91) (fr := (0, 0)) hN) (by simp [Value.oneCell']) (by omega) (by unfold maxLen; omega) (by omega) (Nat.le_trans hbase0 hWs) wx.heap.size rfl ?_
    intro gg cap2 w8 hown8 hgrow hat hlt8
    have hS2 := hS.grown hgrow hBs (fun q hq => Nat.le_trans hrb0 (g2.lt q hq).1)
    have hkg := rov_apart hka0 (fun g e => (hI.2.2.2.2.1.lt g e).2) hat
    exact hK' _ _ ⟨hI.1.stepL rovRa 5 60 rfl (by rw [hsz]; decide) _ _ rfl hall hS2 (fun j hj u h => RovF.grow0 h g2 hgrow (yes_no hj hl) (yes_no hj uS)) ⟨gg, cap2, rfl, hown8, hkg⟩, hI.2.1.put rovRa 5 60 rfl (by rw [hI.1.1.1, hsz]; decide) _ (by rw [hI.1.2.2.1.1]; exact dst_lt (show dstOf rovOps 5 = some 60 from rfl)), ⟨(fun h => absurd rfl (listed_at h (by rw [hI.1.2.2.1.1, rovRn]; decide))), (fun h => (hI.2.2.2.1 (listed_set h)).kept hgrow (rows_apart (hI.2.2.2.1 (listed_set h)) g2 (by decide))), (hI.2.2.2.2.1.kept hgrow hka0), (hI.2.2.2.2.2.grown hgrow hza0)⟩⟩
  · have so := (hI.2.1 11 7 rfl (hI.1.2.2.1.2.unlisted (hI.1.2.2.1.2.unlisted hl (j := 9) (by kernel_rfl)) (j := 11) (by kernel_rfl))).trans a7
    simp only [Array.getD_eq_getD_getElem?] at so
    go_simp
    exact hK' _ _ ⟨hI.1.stepL rovRa 6 61 rfl (by rw [hsz]; decide) _ _ rfl hall hS (fun _ _ _ h => h) rfl, hI.2.1.put rovRa 6 61 rfl (by rw [hI.1.1.1, hsz]; decide) _ (by rw [hI.1.2.2.1.1]; exact dst_lt (show dstOf rovOps 6 = some 61 from rfl)), ⟨(fun e => hI.2.2.1 (listed_set e)), (fun e => hI.2.2.2.1 (listed_set e)), hI.2.2.2.2.1, hI.2.2.2.2.2⟩⟩
  · have hZH := hI.2.2.2.2.2
    have x0 := hZH.cell 0
    have x1 := hZH.cell 1
    have xlt := hZH.lt
    go_simp
    exact hK' _ _ ⟨hI.1.stepL rovRa 7 62 rfl (by rw [hsz]; decide) _ _ rfl hall hS (fun _ _ _ h => h) rfl, hI.2.1.put rovRa 7 62 rfl (by rw [hI.1.1.1, hsz]; decide) _ (by rw [hI.1.2.2.1.1]; exact dst_lt (show dstOf rovOps 7 = some 62 from rfl)), ⟨(fun e => hI.2.2.1 (listed_set e)), (fun e => hI.2.2.2.1 (listed_set e)), hI.2.2.2.2.1, hI.2.2.2.2.2⟩⟩
  · have e7 : c.tmps.getD 62 undef = .agg #[.int .i64 b, .int .i64 s] := hI.1.fact 7 62 rfl (listed hall 7 (by kernel_rfl))
    have f7 := e7
    simp only [Array.getD_eq_getD_getElem?] at e7
    have uA1 := hI.1.2.2.1.2.unlisted hl (j := 9) (by kernel_rfl)
    go_simp
    have hb2 : Below wx.heap.size wx (wx.alloc (.cells ([.int .i64 b, .int .i64 s] : List Value).toArray 56)) := (Below.refl _ _).alloc (Nat.le_refl _) _
    have hS2 := hS.alloc hBs (.cells ([.int .i64 b, .int .i64 s] : List Value).toArray 56)
    exact hK' _ _ ⟨hI.1.stepL rovRa 8 63 rfl (by rw [hsz]; decide) _ _ rfl hall hS2 (fun j _ u h => RovF.new h hb2) ⟨_, rfl, Holds.new _ _ _, fun e => Nat.lt_irrefl _ (Nat.lt_of_lt_of_le (hlt0 _ e) hWs), fun e => Nat.lt_irrefl _ ((hI.2.2.2.1 uA1).lt _ e).2⟩, hI.2.1.put rovRa 8 63 rfl (by rw [hI.1.1.1, hsz]; decide) _ (by rw [hI.1.2.2.1.1]; exact dst_lt (show dstOf rovOps 8 = some 63 from rfl)), ⟨(fun e => row_new (hI.2.2.1 (listed_set e)) hb2), (fun e => row_new (hI.2.2.2.1 (listed_set e)) hb2), row_new hI.2.2.2.2.1 hb2, hI.2.2.2.2.2.keeps (Keeps.of_fresh hb2 (fun _ => False)) (fun e => e)⟩⟩
  · have e6 : c.tmps.getD 61 undef = v' := hI.1.fact 6 61 rfl (listed hall 6 (by kernel_rfl))
    have f6 := e6
    simp only [Array.getD_eq_getD_getElem?] at e6
    obtain ⟨N, e9, hN, hNo⟩ : ∃ N, c.tmps.getD 63 undef = .slice (some ⟨N, 0, none⟩) 1 1 ∧ Holds wx N ([.int .i64 b, .int .i64 s] : List Value).toArray 56 ∧ (v : Value).ownBlock ≠ some N ∧ (v' : Value).ownBlock ≠ some N := hI.1.fact 8 63 rfl (listed hall 8 (by kernel_rfl))
    have g2 := hI.2.2.2.1 hl
    have uS := hI.1.2.2.1.2.unlisted hl (j := 11) (by kernel_rfl)
    obtain ⟨i0, hi, hz0, hz1, hz2⟩ := info_parts infoReg
    refine step_append_lies _ (by rfl) _ _ _ (by rfl) base 56 i0 _ 2 16 Tryz.underlying52 hi hz0 hz1 hz2 rfl (by omega) (v') m (ys) (by exact f6) g2 ⟨N, 0, none⟩ 1 1 ([.int .i64 b, .int .i64 s]) (by exact e9) (by rfl) (World.news_of_block (cs := ([.int .i64 b, .int .i64 s] : List Value).toArray) (t := 56) (fr := (0, 0)) hN) (by simp [Value.oneCell']) (by omega) (by unfold maxLen; omega) (by omega) (Nat.le_trans hbase1 hWs) wx.heap.size rfl ?_
    intro gg cap2 w8 hown8 hgrow hat hlt8
    have hS2 := hS.grown hgrow hBs (fun q hq => Nat.le_trans hrb1 (g2.lt q hq).1)
    have hkg := rov_apart hka1 (fun g e => (hI.2.2.2.2.1.lt g e).2) hat
    exact hK' _ _ ⟨hI.1.stepL rovRa 9 64 rfl (by rw [hsz]; decide) _ _ rfl hall hS2 (fun j hj u h => RovF.grow1 h g2 hgrow (yes_no hj hl) (yes_no hj uS)) ⟨gg, cap2, rfl, hown8, hkg⟩, hI.2.1.put rovRa 9 64 rfl (by rw [hI.1.1.1, hsz]; decide) _ (by rw [hI.1.2.2.1.1]; exact dst_lt (show dstOf rovOps 9 = some 64 from rfl)), ⟨(fun h => (hI.2.2.1 (listed_set h)).kept hgrow (rows_apart (hI.2.2.1 (listed_set h)) g2 (by decide))), (fun h => absurd rfl (listed_at h (by rw [hI.1.2.2.1.1, rovRn]; decide))), (hI.2.2.2.2.1.kept hgrow hka1), (hI.2.2.2.2.2.grown hgrow hza1)⟩⟩
  · obtain ⟨g', c', e10, hr, hk⟩ : ∃ g' c', c.tmps.getD 60 undef = (.slice (some ⟨g', 0, none⟩) (m + 1) c') ∧ wx.ownsRow base 91 2 (.slice (some ⟨g', 0, none⟩) (m + 1) c') (m + 1) (xs ++ ([.int .i64 i, .int .i64 q] : List Value)) ∧ (kv : Value).ownBlock ≠ some g' := hI.1.fact 5 60 rfl (listed hall 5 (by kernel_rfl))
    simp only [Array.getD_eq_getD_getElem?] at e10
    go_simp
    exact hK' _ _ ⟨hI.1.stepL rovRa 10 6 rfl (by rw [hsz]; decide) _ _ rfl hall hS (fun _ _ _ h => h) ⟨g', c', rfl, hr, hk⟩, hI.2.1.put rovRa 10 6 rfl (by rw [hI.1.1.1, hsz]; decide) _ (by rw [hI.1.2.2.1.1]; exact dst_lt (show dstOf rovOps 10 = some 6 from rfl)), ⟨(fun e => hI.2.2.1 (listed_set e)), (fun e => hI.2.2.2.1 (listed_set e)), hI.2.2.2.2.1, hI.2.2.2.2.2⟩⟩
  · obtain ⟨g', c', e10, hr, hk⟩ : ∃ g' c', c.tmps.getD 64 undef = (.slice (some ⟨g', 0, none⟩) (m + 1) c') ∧ wx.ownsRow base 56 2 (.slice (some ⟨g', 0, none⟩) (m + 1) c') (m + 1) (ys ++ ([.int .i64 b, .int .i64 s] : List Value)) ∧ (kv : Value).ownBlock ≠ some g' := hI.1.fact 9 64 rfl (listed hall 9 (by kernel_rfl))
    simp only [Array.getD_eq_getD_getElem?] at e10
    go_simp
    exact hK' _ _ ⟨hI.1.stepL rovRa 11 7 rfl (by rw [hsz]; decide) _ _ rfl hall hS (fun _ _ _ h => h) ⟨g', c', rfl, hr, hk⟩, hI.2.1.put rovRa 11 7 rfl (by rw [hI.1.1.1, hsz]; decide) _ (by rw [hI.1.2.2.1.1]; exact dst_lt (show dstOf rovOps 11 = some 7 from rfl)), ⟨(fun e => hI.2.2.1 (listed_set e)), (fun e => hI.2.2.2.1 (listed_set e)), hI.2.2.2.2.1, hI.2.2.2.2.2⟩⟩
end Go.Proofs.YthkoaakicdhnpaaGreat

namespace Go.Proofs.YthkoaakicdhnpaaGreat
open Go.RowKit

noncomputable def rcmOps : Array Oper := (regOps (Tryz.f17.body.getD .skip) 27).getD #[]
theorem rcmR : inRow2 .any rcmOps = true := by kernel_rfl
theorem rcmRa : apartB rcmOps = true := by kernel_rfl
theorem rcmRn : rcmOps.size = 35 := by kernel_rfl
def RcmF (g n cap i k : Nat) (b1 s1 b2 s2 : Int) (j : Nat) : Value → World → Prop := match j with
  | 0 => fun u _ => u = .slice (some ⟨g, 0, none⟩) n cap
  | 1 => fun u _ => u = .int .i64 i
  | 2 => fun u _ => u = .pointer (some ⟨g, i * 2, none⟩)
  | 3 => fun u _ => u = .pointer (some ⟨g, i * 2, none⟩)
  | 4 => fun u _ => u = .int .i64 b1
  | 5 => fun u _ => u = .slice (some ⟨g, 0, none⟩) n cap
  | 6 => fun u _ => u = .int .i64 k
  | 7 => fun u _ => u = .pointer (some ⟨g, k * 2, none⟩)
  | 8 => fun u _ => u = .pointer (some ⟨g, k * 2, none⟩)
  | 9 => fun u _ => u = .int .i64 b2
  | 10 => fun u _ => u = .int .i64 (max b1 b2)
  | 11 => fun u _ => u = .slice (some ⟨g, 0, none⟩) n cap
  | 12 => fun u _ => u = .int .i64 i
  | 13 => fun u _ => u = .pointer (some ⟨g, i * 2, none⟩)
  | 14 => fun u _ => u = .pointer (some ⟨g, i * 2, none⟩)
  | 15 => fun u _ => u = .int .i64 b1
  | 16 => fun u _ => u = .slice (some ⟨g, 0, none⟩) n cap
  | 17 => fun u _ => u = .int .i64 i
  | 18 => fun u _ => u = .pointer (some ⟨g, i * 2, none⟩)
  | 19 => fun u _ => u = .pointer (some ⟨g, i * 2 + 1, none⟩)
  | 20 => fun u _ => u = .int .i64 s1
  | 21 => fun u _ => u = .int .i64 (b1 + s1)
  | 22 => fun u _ => u = .slice (some ⟨g, 0, none⟩) n cap
  | 23 => fun u _ => u = .int .i64 k
  | 24 => fun u _ => u = .pointer (some ⟨g, k * 2, none⟩)
  | 25 => fun u _ => u = .pointer (some ⟨g, k * 2, none⟩)
  | 26 => fun u _ => u = .int .i64 b2
  | 27 => fun u _ => u = .slice (some ⟨g, 0, none⟩) n cap
  | 28 => fun u _ => u = .int .i64 k
  | 29 => fun u _ => u = .pointer (some ⟨g, k * 2, none⟩)
  | 30 => fun u _ => u = .pointer (some ⟨g, k * 2 + 1, none⟩)
  | 31 => fun u _ => u = .int .i64 s2
  | 32 => fun u _ => u = .int .i64 (b2 + s2)
  | 33 => fun u _ => u = .int .i64 (min (b1 + s1) (b2 + s2))
  | 34 => fun u _ => u = .bool (decide (max b1 b2 < min (b1 + s1) (b2 + s2)))
  | _ => fun _ _ => True
def RcmX (_ _ _ _ _ : Nat) (_ _ _ _ : Int) (_ : Array Bool) (_ : World) : Prop := True
section
variable {g n cap i k : Nat} {b1 s1 b2 s2 : Int} {w w' : World} {j : Nat} {u : Value}
theorem RcmF.new (h : RcmF g n cap i k b1 s1 b2 s2 j u w) (kb : Below w.heap.size w w') : RcmF g n cap i k b1 s1 b2 s2 j u w' := by
  unfold RcmF at *
  have kk := Keeps.of_fresh kb (fun _ => False)
  split at h
  all_goals first
    | exact h
    | (obtain ⟨N, e, hN, r⟩ := h; exact ⟨N, e, hN.keeps kk (fun e => e), r⟩)
    | (obtain ⟨g', c', e, hr⟩ := h; exact ⟨g', c', e, row_new hr kb⟩)
end

set_option maxHeartbeats 4000000 in
set_option maxRecDepth 100000 in
theorem rcm_region {Q : Exit → Act → World → Prop} (g n cap i k : Nat) (b1 s1 b2 s2 : Int) (B0 : Nat) (W w : World) (A : Act) (hsz : A.tmps.size = 135) (hB0 : B0 ≤ W.heap.size)    (hin : i < n) (hkn : k < n) (hgB : g < B0) (hr1 : RegOk (b1, s1)) (hr2 : RegOk (b2, s2)) (hb1 : W.cell? ⟨g, i * 2, none⟩ = some (.int .i64 b1)) (hs1 : W.cell? ⟨g, i * 2 + 1, none⟩ = some (.int .i64 s1)) (hb2 : W.cell? ⟨g, k * 2, none⟩ = some (.int .i64 b2)) (hs2 : W.cell? ⟨g, k * 2 + 1, none⟩ = some (.int .i64 s2))
    (a7 : A.tmps.getD 7 undef = .slice (some ⟨g, 0, none⟩) n cap) (a16 : A.tmps.getD 16 undef = .int .i64 i) (a18 : A.tmps.getD 18 undef = .int .i64 k)
    (hS : Below B0 W w)  
    (hQ : ∀ c w', SameBut rcmOps A c → Below B0 W w' → c.tmps.getD 126 undef = .bool (decide (max b1 b2 < min (b1 + s1) (b2 + s2))) → Q .normal c w') :
    wpAny Tryz.prog .any rcmOps Q rcmOps.size (Array.replicate rcmOps.size false) A w := by
  refine wpAny_inv2 (fun l c wx => RInv rcmOps A (RcmF g n cap i k b1 s1 b2 s2) (fun wx => Below B0 W wx) l c wx ∧ Fresh rcmOps A l c ∧ RcmX g n cap i k b1 s1 b2 s2 l wx) rcmR ?hend ?hstep _ _ _ _ (by simp) (by simp) ⟨RInv.start hS, fun _ _ _ _ => rfl, trivial⟩
  case hend =>
    intro l c wx hI hl
    have hh : ∀ k, k < 35 → l.getD k false = true := fun k hk => hl k (by rw [rcmRn]; exact hk)
    exact hQ c wx  hI.1.1 hI.1.2.1   (hI.1.fact 34 126 rfl (hh 34 (by decide)))
  intro l c wx hI i' op ho hl hall K' hK'
  have hi13 : i' < 35 := by rw [← rcmRn]; exact (Array.getElem?_eq_some_iff.1 ho).1
  simp only [rcmOps, regOps, Tryz.f17, Option.getD_some, reduceIte, Nat.reduceEqDiff] at ho
  have hS := hI.1.2.1
  have hBs : B0 ≤ wx.heap.size := Nat.le_trans hB0 hS.size
  have hWs : W.heap.size ≤ wx.heap.size := hS.size
  have s7 := (hI.1.slot 7 (by kernel_rfl)).trans a7
  have s16 := (hI.1.slot 16 (by kernel_rfl)).trans a16
  have s18 := (hI.1.slot 18 (by kernel_rfl)).trans a18
  simp only [Array.getD_eq_getD_getElem?] at s7 s16 s18
  obtain ⟨q0, q1, q2, q3, q4⟩ := hr1
  obtain ⟨q5, q6, q7, q8, q9⟩ := hr2
  simp only at q0 q1 q2 q3 q4 q5 q6 q7 q8 q9
  have wa : IntKind.i64.wrap (b1 + s1) = b1 + s1 := IntWalk.i64_in _ (by omega)
  have wb : IntKind.i64.wrap (b2 + s2) = b2 + s2 := IntWalk.i64_in _ (by omega)
  have hic : i' = 0 ∨ i' = 1 ∨ i' = 2 ∨ i' = 3 ∨ i' = 4 ∨ i' = 5 ∨ i' = 6 ∨ i' = 7 ∨ i' = 8 ∨ i' = 9 ∨ i' = 10 ∨ i' = 11 ∨ i' = 12 ∨ i' = 13 ∨ i' = 14 ∨ i' = 15 ∨ i' = 16 ∨ i' = 17 ∨ i' = 18 ∨ i' = 19 ∨ i' = 20 ∨ i' = 21 ∨ i' = 22 ∨ i' = 23 ∨ i' = 24 ∨ i' = 25 ∨ i' = 26 ∨ i' = 27 ∨ i' = 28 ∨ i' = 29 ∨ i' = 30 ∨ i' = 31 ∨ i' = 32 ∨ i' = 33 ∨ i' = 34 := by omega
  rcases hic with rfl | rfl | rfl | rfl | rfl | rfl | rfl | rfl | rfl | rfl | rfl | rfl | rfl | rfl | rfl | rfl | rfl | rfl | rfl | rfl | rfl | rfl | rfl | rfl | rfl | rfl | rfl | rfl | rfl | rfl | rfl | rfl | rfl | rfl | rfl
  all_goals cases ho
  · go_simp
    exact hK' _ _ ⟨hI.1.stepL rcmRa 0 92 rfl (by rw [hsz]; decide) _ _ rfl hall hS (fun _ _ _ h => h) rfl, hI.2.1.put rcmRa 0 92 rfl (by rw [hI.1.1.1, hsz]; decide) _ (by rw [hI.1.2.2.1.1]; exact dst_lt (show dstOf rcmOps 0 = some 92 from rfl)), trivial⟩
  · go_simp
    exact hK' _ _ ⟨hI.1.stepL rcmRa 1 93 rfl (by rw [hsz]; decide) _ _ rfl hall hS (fun _ _ _ h => h) rfl, hI.2.1.put rcmRa 1 93 rfl (by rw [hI.1.1.1, hsz]; decide) _ (by rw [hI.1.2.2.1.1]; exact dst_lt (show dstOf rcmOps 1 = some 93 from rfl)), trivial⟩
  · have e0 : c.tmps.getD 92 undef = .slice (some ⟨g, 0, none⟩) n cap := hI.1.fact 0 92 rfl (listed hall 0 (by kernel_rfl))
    have f0 := e0
    simp only [Array.getD_eq_getD_getElem?] at e0
    have e1 : c.tmps.getD 93 undef = .int .i64 i := hI.1.fact 1 93 rfl (listed hall 1 (by kernel_rfl))
    have f1 := e1
    simp only [Array.getD_eq_getD_getElem?] at e1
    go_simp
    exact hK' _ _ ⟨hI.1.stepL rcmRa 2 94 rfl (by rw [hsz]; decide) _ _ rfl hall hS (fun _ _ _ h => h) rfl, hI.2.1.put rcmRa 2 94 rfl (by rw [hI.1.1.1, hsz]; decide) _ (by rw [hI.1.2.2.1.1]; exact dst_lt (show dstOf rcmOps 2 = some 94 from rfl)), trivial⟩
  · have e2 : c.tmps.getD 94 undef = .pointer (some ⟨g, i * 2, none⟩) := hI.1.fact 2 94 rfl (listed hall 2 (by kernel_rfl))
    have f2 := e2
    simp only [Array.getD_eq_getD_getElem?] at e2
    go_simp
    exact hK' _ _ ⟨hI.1.stepL rcmRa 3 95 rfl (by rw [hsz]; decide) _ _ rfl hall hS (fun _ _ _ h => h) rfl, hI.2.1.put rcmRa 3 95 rfl (by rw [hI.1.1.1, hsz]; decide) _ (by rw [hI.1.2.2.1.1]; exact dst_lt (show dstOf rcmOps 3 = some 95 from rfl)), trivial⟩
  · have e3 : c.tmps.getD 95 undef = .pointer (some ⟨g, i * 2, none⟩) := hI.1.fact 3 95 rfl (listed hall 3 (by kernel_rfl))
    have f3 := e3
    simp only [Array.getD_eq_getD_getElem?] at e3
    have xb1 := (hS.cell (p := ⟨g, i * 2, none⟩) hgB).trans hb1
    go_simp
    exact hK' _ _ ⟨hI.1.stepL rcmRa 4 96 rfl (by rw [hsz]; decide) _ _ rfl hall hS (fun _ _ _ h => h) rfl, hI.2.1.put rcmRa 4 96 rfl (by rw [hI.1.1.1, hsz]; decide) _ (by rw [hI.1.2.2.1.1]; exact dst_lt (show dstOf rcmOps 4 = some 96 from rfl)), trivial⟩
  · go_simp
    exact hK' _ _ ⟨hI.1.stepL rcmRa 5 97 rfl (by rw [hsz]; decide) _ _ rfl hall hS (fun _ _ _ h => h) rfl, hI.2.1.put rcmRa 5 97 rfl (by rw [hI.1.1.1, hsz]; decide) _ (by rw [hI.1.2.2.1.1]; exact dst_lt (show dstOf rcmOps 5 = some 97 from rfl)), trivial⟩
  · go_simp
    exact hK' _ _ ⟨hI.1.stepL rcmRa 6 98 rfl (by rw [hsz]; decide) _ _ rfl hall hS (fun _ _ _ h => h) rfl, hI.2.1.put rcmRa 6 98 rfl (by rw [hI.1.1.1, hsz]; decide) _ (by rw [hI.1.2.2.1.1]; exact dst_lt (show dstOf rcmOps 6 = some 98 from rfl)), trivial⟩
  · have e5 : c.tmps.getD 97 undef = .slice (some ⟨g, 0, none⟩) n cap := hI.1.fact 5 97 rfl (listed hall 5 (by kernel_rfl))
    have f5 := e5
    simp only [Array.getD_eq_getD_getElem?] at e5
    have e6 : c.tmps.getD 98 undef = .int .i64 k := hI.1.fact 6 98 rfl (listed hall 6 (by kernel_rfl))
    have f6 := e6
    simp only [Array.getD_eq_getD_getElem?] at e6
    go_simp
    exact hK' _ _ ⟨hI.1.stepL rcmRa 7 99 rfl (by rw [hsz]; decide) _ _ rfl hall hS (fun _ _ _ h => h) rfl, hI.2.1.put rcmRa 7 99 rfl (by rw [hI.1.1.1, hsz]; decide) _ (by rw [hI.1.2.2.1.1]; exact dst_lt (show dstOf rcmOps 7 = some 99 from rfl)), trivial⟩
  · have e7 : c.tmps.getD 99 undef = .pointer (some ⟨g, k * 2, none⟩) := hI.1.fact 7 99 rfl (listed hall 7 (by kernel_rfl))
    have f7 := e7
    simp only [Array.getD_eq_getD_getElem?] at e7
    go_simp
    exact hK' _ _ ⟨hI.1.stepL rcmRa 8 100 rfl (by rw [hsz]; decide) _ _ rfl hall hS (fun _ _ _ h => h) rfl, hI.2.1.put rcmRa 8 100 rfl (by rw [hI.1.1.1, hsz]; decide) _ (by rw [hI.1.2.2.1.1]; exact dst_lt (show dstOf rcmOps 8 = some 100 from rfl)), trivial⟩
  · have e8 : c.tmps.getD 100 undef = .pointer (some ⟨g, k * 2, none⟩) := hI.1.fact 8 100 rfl (listed hall 8 (by kernel_rfl))
    have f8 := e8
    simp only [Array.getD_eq_getD_getElem?] at e8
    have xb2 := (hS.cell (p := ⟨g, k * 2, none⟩) hgB).trans hb2
    go_simp
    exact hK' _ _ ⟨hI.1.stepL rcmRa 9 101 rfl (by rw [hsz]; decide) _ _ rfl hall hS (fun _ _ _ h => h) rfl, hI.2.1.put rcmRa 9 101 rfl (by rw [hI.1.1.1, hsz]; decide) _ (by rw [hI.1.2.2.1.1]; exact dst_lt (show dstOf rcmOps 9 = some 101 from rfl)), trivial⟩
  · have e4 : c.tmps.getD 96 undef = .int .i64 b1 := hI.1.fact 4 96 rfl (listed hall 4 (by kernel_rfl))
    have f4 := e4
    simp only [Array.getD_eq_getD_getElem?] at e4
    have e9 : c.tmps.getD 101 undef = .int .i64 b2 := hI.1.fact 9 101 rfl (listed hall 9 (by kernel_rfl))
    have f9 := e9
    simp only [Array.getD_eq_getD_getElem?] at e9
    go_simp
    exact hK' _ _ ⟨hI.1.stepL rcmRa 10 102 rfl (by rw [hsz]; decide) _ _ rfl hall hS (fun _ _ _ h => h) rfl, hI.2.1.put rcmRa 10 102 rfl (by rw [hI.1.1.1, hsz]; decide) _ (by rw [hI.1.2.2.1.1]; exact dst_lt (show dstOf rcmOps 10 = some 102 from rfl)), trivial⟩
  · go_simp
    exact hK' _ _ ⟨hI.1.stepL rcmRa 11 103 rfl (by rw [hsz]; decide) _ _ rfl hall hS (fun _ _ _ h => h) rfl, hI.2.1.put rcmRa 11 103 rfl (by rw [hI.1.1.1, hsz]; decide) _ (by rw [hI.1.2.2.1.1]; exact dst_lt (show dstOf rcmOps 11 = some 103 from rfl)), trivial⟩
  · go_simp
    exact hK' _ _ ⟨hI.1.stepL rcmRa 12 104 rfl (by rw [hsz]; decide) _ _ rfl hall hS (fun _ _ _ h => h) rfl, hI.2.1.put rcmRa 12 104 rfl (by rw [hI.1.1.1, hsz]; decide) _ (by rw [hI.1.2.2.1.1]; exact dst_lt (show dstOf rcmOps 12 = some 104 from rfl)), trivial⟩
  · have e11 : c.tmps.getD 103 undef = .slice (some ⟨g, 0, none⟩) n cap := hI.1.fact 11 103 rfl (listed hall 11 (by kernel_rfl))
    have f11 := e11
    simp only [Array.getD_eq_getD_getElem?] at e11
    have e12 : c.tmps.getD 104 undef = .int .i64 i := hI.1.fact 12 104 rfl (listed hall 12 (by kernel_rfl))
    have f12 := e12
    simp only [Array.getD_eq_getD_getElem?] at e12
    go_simp
    exact hK' _ _ ⟨hI.1.stepL rcmRa 13 105 rfl (by rw [hsz]; decide) _ _ rfl hall hS (fun _ _ _ h => h) rfl, hI.2.1.put rcmRa 13 105 rfl (by rw [hI.1.1.1, hsz]; decide) _ (by rw [hI.1.2.2.1.1]; exact dst_lt (show dstOf rcmOps 13 = some 105 from rfl)), trivial⟩
  · have e13 : c.tmps.getD 105 undef = .pointer (some ⟨g, i * 2, none⟩) := hI.1.fact 13 105 rfl (listed hall 13 (by kernel_rfl))
    have f13 := e13
    simp only [Array.getD_eq_getD_getElem?] at e13
    go_simp
    exact hK' _ _ ⟨hI.1.stepL rcmRa 14 106 rfl (by rw [hsz]; decide) _ _ rfl hall hS (fun _ _ _ h => h) rfl, hI.2.1.put rcmRa 14 106 rfl (by rw [hI.1.1.1, hsz]; decide) _ (by rw [hI.1.2.2.1.1]; exact dst_lt (show dstOf rcmOps 14 = some 106 from rfl)), trivial⟩
  · have e14 : c.tmps.getD 106 undef = .pointer (some ⟨g, i * 2, none⟩) := hI.1.fact 14 106 rfl (listed hall 14 (by kernel_rfl))
    have f14 := e14
    simp only [Array.getD_eq_getD_getElem?] at e14
    have xb1 := (hS.cell (p := ⟨g, i * 2, none⟩) hgB).trans hb1
    go_simp
    exact hK' _ _ ⟨hI.1.stepL rcmRa 15 107 rfl (by rw [hsz]; decide) _ _ rfl hall hS (fun _ _ _ h => h) rfl, hI.2.1.put rcmRa 15 107 rfl (by rw [hI.1.1.1, hsz]; decide) _ (by rw [hI.1.2.2.1.1]; exact dst_lt (show dstOf rcmOps 15 = some 107 from rfl)), trivial⟩
  · go_simp
    exact hK' _ _ ⟨hI.1.stepL rcmRa 16 108 rfl (by rw [hsz]; decide) _ _ rfl hall hS (fun _ _ _ h => h) rfl, hI.2.1.put rcmRa 16 108 rfl (by rw [hI.1.1.1, hsz]; decide) _ (by rw [hI.1.2.2.1.1]; exact dst_lt (show dstOf rcmOps 16 = some 108 from rfl)), trivial⟩
  · go_simp
    exact hK' _ _ ⟨hI.1.stepL rcmRa 17 109 rfl (by rw [hsz]; decide) _ _ rfl hall hS (fun _ _ _ h => h) rfl, hI.2.1.put rcmRa 17 109 rfl (by rw [hI.1.1.1, hsz]; decide) _ (by rw [hI.1.2.2.1.1]; exact dst_lt (show dstOf rcmOps 17 = some 109 from rfl)), trivial⟩
  · have e16 : c.tmps.getD 108 undef = .slice (some ⟨g, 0, none⟩) n cap := hI.1.fact 16 108 rfl (listed hall 16 (by kernel_rfl))
    have f16 := e16
    simp only [Array.getD_eq_getD_getElem?] at e16
    have e17 : c.tmps.getD 109 undef = .int .i64 i := hI.1.fact 17 109 rfl (listed hall 17 (by kernel_rfl))
    have f17 := e17
    simp only [Array.getD_eq_getD_getElem?] at e17
    go_simp
    exact hK' _ _ ⟨hI.1.stepL rcmRa 18 110 rfl (by rw [hsz]; decide) _ _ rfl hall hS (fun _ _ _ h => h) rfl, hI.2.1.put rcmRa 18 110 rfl (by rw [hI.1.1.1, hsz]; decide) _ (by rw [hI.1.2.2.1.1]; exact dst_lt (show dstOf rcmOps 18 = some 110 from rfl)), trivial⟩
  · have e18 : c.tmps.getD 110 undef = .pointer (some ⟨g, i * 2, none⟩) := hI.1.fact 18 110 rfl (listed hall 18 (by kernel_rfl))
    have f18 := e18
    simp only [Array.getD_eq_getD_getElem?] at e18
    go_simp
    exact hK' _ _ ⟨hI.1.stepL rcmRa 19 111 rfl (by rw [hsz]; decide) _ _ rfl hall hS (fun _ _ _ h => h) rfl, hI.2.1.put rcmRa 19 111 rfl (by rw [hI.1.1.1, hsz]; decide) _ (by rw [hI.1.2.2.1.1]; exact dst_lt (show dstOf rcmOps 19 = some 111 from rfl)), trivial⟩
  · have e19 : c.tmps.getD 111 undef = .pointer (some ⟨g, i * 2 + 1, none⟩) := hI.1.fact 19 111 rfl (listed hall 19 (by kernel_rfl))
    have f19 := e19
    simp only [Array.getD_eq_getD_getElem?] at e19
    have xs1 := (hS.cell (p := ⟨g, i * 2 + 1, none⟩) hgB).trans hs1
    go_simp
    exact hK' _ _ ⟨hI.1.stepL rcmRa 20 112 rfl (by rw [hsz]; decide) _ _ rfl hall hS (fun _ _ _ h => h) rfl, hI.2.1.put rcmRa 20 112 rfl (by rw [hI.1.1.1, hsz]; decide) _ (by rw [hI.1.2.2.1.1]; exact dst_lt (show dstOf rcmOps 20 = some 112 from rfl)), trivial⟩
  · have e15 : c.tmps.getD 107 undef = .int .i64 b1 := hI.1.fact 15 107 rfl (listed hall 15 (by kernel_rfl))
    have f15 := e15
    simp only [Array.getD_eq_getD_getElem?] at e15
    have e20 : c.tmps.getD 112 undef = .int .i64 s1 := hI.1.fact 20 112 rfl (listed hall 20 (by kernel_rfl))
    have f20 := e20
    simp only [Array.getD_eq_getD_getElem?] at e20
    go_simp
    exact hK' _ _ ⟨hI.1.stepL rcmRa 21 113 rfl (by rw [hsz]; decide) _ _ rfl hall hS (fun _ _ _ h => h) rfl, hI.2.1.put rcmRa 21 113 rfl (by rw [hI.1.1.1, hsz]; decide) _ (by rw [hI.1.2.2.1.1]; exact dst_lt (show dstOf rcmOps 21 = some 113 from rfl)), trivial⟩
  · go_simp
    exact hK' _ _ ⟨hI.1.stepL rcmRa 22 114 rfl (by rw [hsz]; decide) _ _ rfl hall hS (fun _ _ _ h => h) rfl, hI.2.1.put rcmRa 22 114 rfl (by rw [hI.1.1.1, hsz]; decide) _ (by rw [hI.1.2.2.1.1]; exact dst_lt (show dstOf rcmOps 22 = some 114 from rfl)), trivial⟩
  · go_simp
    exact hK' _ _ ⟨hI.1.stepL rcmRa 23 115 rfl (by rw [hsz]; decide) _ _ rfl hall hS (fun _ _ _ h => h) rfl, hI.2.1.put rcmRa 23 115 rfl (by rw [hI.1.1.1, hsz]; decide) _ (by rw [hI.1.2.2.1.1]; exact dst_lt (show dstOf rcmOps 23 = some 115 from rfl)), trivial⟩
  · have e22 : c.tmps.getD 114 undef = .slice (some ⟨g, 0, none⟩) n cap := hI.1.fact 22 114 rfl (listed hall 22 (by kernel_rfl))
    have f22 := e22
    simp only [Array.getD_eq_getD_getElem?] at e22
    have e23 : c.tmps.getD 115 undef = .int .i64 k := hI.1.fact 23 115 rfl (listed hall 23 (by kernel_rfl))
    have f23 := e23
    simp only [Array.getD_eq_getD_getElem?] at e23
    go_simp
    exact hK' _ _ ⟨hI.1.stepL rcmRa 24 116 rfl (by rw [hsz]; decide) _ _ rfl hall hS (fun _ _ _ h => h) rfl, hI.2.1.put rcmRa 24 116 rfl (by rw [hI.1.1.1, hsz]; decide) _ (by rw [hI.1.2.2.1.1]; exact dst_lt (show dstOf rcmOps 24 = some 116 from rfl)), trivial⟩
  · have e24 : c.tmps.getD 116 undef = .pointer (some ⟨g, k * 2, none⟩) := hI.1.fact 24 116 rfl (listed hall 24 (by kernel_rfl))
    have f24 := e24
    simp only [Array.getD_eq_getD_getElem?] at e24
    go_simp
    exact hK' _ _ ⟨hI.1.stepL rcmRa 25 117 rfl (by rw [hsz]; decide) _ _ rfl hall hS (fun _ _ _ h => h) rfl, hI.2.1.put rcmRa 25 117 rfl (by rw [hI.1.1.1, hsz]; decide) _ (by rw [hI.1.2.2.1.1]; exact dst_lt (show dstOf rcmOps 25 = some 117 from rfl)), trivial⟩
  · have e25 : c.tmps.getD 117 undef = .pointer (some ⟨g, k * 2, none⟩) := hI.1.fact 25 117 rfl (listed hall 25 (by kernel_rfl))
    have f25 := e25
    simp only [Array.getD_eq_getD_getElem?] at e25
    have xb2 := (hS.cell (p := ⟨g, k * 2, none⟩) hgB).trans hb2
    go_simp
    exact hK' _ _ ⟨hI.1.stepL rcmRa 26 118 rfl (by rw [hsz]; decide) _ _ rfl hall hS (fun _ _ _ h => h) rfl, hI.2.1.put rcmRa 26 118 rfl (by rw [hI.1.1.1, hsz]; decide) _ (by rw [hI.1.2.2.1.1]; exact dst_lt (show dstOf rcmOps 26 = some 118 from rfl)), trivial⟩
  · go_simp
    exact hK' _ _ ⟨hI.1.stepL rcmRa 27 119 rfl (by rw [hsz]; decide) _ _ rfl hall hS (fun _ _ _ h => h) rfl, hI.2.1.put rcmRa 27 119 rfl (by rw [hI.1.1.1, hsz]; decide) _ (by rw [hI.1.2.2.1.1]; exact dst_lt (show dstOf rcmOps 27 = some 119 from rfl)), trivial⟩
  · go_simp
    exact hK' _ _ ⟨hI.1.stepL rcmRa 28 120 rfl (by rw [hsz]; decide) _ _ rfl hall hS (fun _ _ _ h => h) rfl, hI.2.1.put rcmRa 28 120 rfl (by rw [hI.1.1.1, hsz]; decide) _ (by rw [hI.1.2.2.1.1]; exact dst_lt (show dstOf rcmOps 28 = some 120 from rfl)), trivial⟩
  · have e27 : c.tmps.getD 119 undef = .slice (some ⟨g, 0, none⟩) n cap := hI.1.fact 27 119 rfl (listed hall 27 (by kernel_rfl))
    have f27 := e27
    simp only [Array.getD_eq_getD_getElem?] at e27
    have e28 : c.tmps.getD 120 undef = .int .i64 k := hI.1.fact 28 120 rfl (listed hall 28 (by kernel_rfl))
    have f28 := e28
    simp only [Array.getD_eq_getD_getElem?] at e28
    go_simp
    exact hK' _ _ ⟨hI.1.stepL rcmRa 29 121 rfl (by rw [hsz]; decide) _ _ rfl hall hS (fun _ _ _ h => h) rfl, hI.2.1.put rcmRa 29 121 rfl (by rw [hI.1.1.1, hsz]; decide) _ (by rw [hI.1.2.2.1.1]; exact dst_lt (show dstOf rcmOps 29 = some 121 from rfl)), trivial⟩
  · have e29 : c.tmps.getD 121 undef = .pointer (some ⟨g, k * 2, none⟩) := hI.1.fact 29 121 rfl (listed hall 29 (by kernel_rfl))
    have f29 := e29
    simp only [Array.getD_eq_getD_getElem?] at e29
    go_simp
    exact hK' _ _ ⟨hI.1.stepL rcmRa 30 122 rfl (by rw [hsz]; decide) _ _ rfl hall hS (fun _ _ _ h => h) rfl, hI.2.1.put rcmRa 30 122 rfl (by rw [hI.1.1.1, hsz]; decide) _ (by rw [hI.1.2.2.1.1]; exact dst_lt (show dstOf rcmOps 30 = some 122 from rfl)), trivial⟩
  · have e30 : c.tmps.getD 122 undef = .pointer (some ⟨g, k * 2 + 1, none⟩) := hI.1.fact 30 122 rfl (listed hall 30 (by kernel_rfl))
    have f30 := e30
    simp only [Array.getD_eq_getD_getElem?] at e30
    have xs2 := (hS.cell (p := ⟨g, k * 2 + 1, none⟩) hgB).trans hs2
    go_simp
    exact hK' _ _ ⟨hI.1.stepL rcmRa 31 123 rfl (by rw [hsz]; decide) _ _ rfl hall hS (fun _ _ _ h => h) rfl, hI.2.1.put rcmRa 31 123 rfl (by rw [hI.1.1.1, hsz]; decide) _ (by rw [hI.1.2.2.1.1]; exact dst_lt (show dstOf rcmOps 31 = some 123 from rfl)), trivial⟩
  · have e26 : c.tmps.getD 118 undef = .int .i64 b2 := hI.1.fact 26 118 rfl (listed hall 26 (by kernel_rfl))
    have f26 := e26
    simp only [Array.getD_eq_getD_getElem?] at e26
    have e31 : c.tmps.getD 123 undef = .int .i64 s2 := hI.1.fact 31 123 rfl (listed hall 31 (by kernel_rfl))
    have f31 := e31
    simp only [Array.getD_eq_getD_getElem?] at e31
    go_simp
    exact hK' _ _ ⟨hI.1.stepL rcmRa 32 124 rfl (by rw [hsz]; decide) _ _ rfl hall hS (fun _ _ _ h => h) rfl, hI.2.1.put rcmRa 32 124 rfl (by rw [hI.1.1.1, hsz]; decide) _ (by rw [hI.1.2.2.1.1]; exact dst_lt (show dstOf rcmOps 32 = some 124 from rfl)), trivial⟩
  · have e21 : c.tmps.getD 113 undef = .int .i64 (b1 + s1) := hI.1.fact 21 113 rfl (listed hall 21 (by kernel_rfl))
    have f21 := e21
    simp only [Array.getD_eq_getD_getElem?] at e21
    have e32 : c.tmps.getD 124 undef = .int .i64 (b2 + s2) := hI.1.fact 32 124 rfl (listed hall 32 (by kernel_rfl))
    have f32 := e32
    simp only [Array.getD_eq_getD_getElem?] at e32
    go_simp
    exact hK' _ _ ⟨hI.1.stepL rcmRa 33 125 rfl (by rw [hsz]; decide) _ _ rfl hall hS (fun _ _ _ h => h) rfl, hI.2.1.put rcmRa 33 125 rfl (by rw [hI.1.1.1, hsz]; decide) _ (by rw [hI.1.2.2.1.1]; exact dst_lt (show dstOf rcmOps 33 = some 125 from rfl)), trivial⟩
  · have e10 : c.tmps.getD 102 undef = .int .i64 (max b1 b2) := hI.1.fact 10 102 rfl (listed hall 10 (by kernel_rfl))
    have f10 := e10
    simp only [Array.getD_eq_getD_getElem?] at e10
    have e33 : c.tmps.getD 125 undef = .int .i64 (min (b1 + s1) (b2 + s2)) := hI.1.fact 33 125 rfl (listed hall 33 (by kernel_rfl))
    have f33 := e33
    simp only [Array.getD_eq_getD_getElem?] at e33
    go_simp
    exact hK' _ _ ⟨hI.1.stepL rcmRa 34 126 rfl (by rw [hsz]; decide) _ _ rfl hall hS (fun _ _ _ h => h) rfl, hI.2.1.put rcmRa 34 126 rfl (by rw [hI.1.1.1, hsz]; decide) _ (by rw [hI.1.2.2.1.1]; exact dst_lt (show dstOf rcmOps 34 = some 126 from rfl)), trivial⟩
end Go.Proofs.YthkoaakicdhnpaaGreat

namespace Go.Proofs.YthkoaakicdhnpaaGreat
open Go.RowKit

theorem infoByte : (Tryz.prog.info? 5).map (fun i => (i.zero, i.size, i.bytes)) = some (some (.int .u8 0), 1, 1) := by kernel_rfl
/-- A row of bytes of the call's own, as a string. -/
theorem bytes_conv {w : World} {base : Nat} {v : Value} {acc : List UInt8} (h : w.ownsRow base 5 1 v acc.length (Lib.byteCells acc)) :
    (convert 77 9 v).run Tryz.prog w = .ok (.string ⟨acc.toArray⟩) w := by
  rcases h.2 with ⟨rfl, h0⟩ | ⟨g, cap, cur, rfl, hb, hh, hcap, hr⟩
  · have : acc = [] := List.eq_nil_of_length_eq_zero h0
    subst this
    exact run_convert_bytes_nil w _ _ Tryz.underlying77 Tryz.underlying5 0 0 _ Tryz.underlying9
  · refine run_convert_bytes_back w _ _ _ ⟨g, 0, none⟩ cap acc Tryz.underlying77 Tryz.underlying5 Tryz.underlying9 ?_
    intro j hj
    exact h.cells (g := g) rfl j _ (by simp [Lib.byteCells, hj])
theorem bytes_shape {w : World} {base : Nat} {e : TypeId} {v : Value} {n : Nat} {xs : List Value} (h : w.ownsRow base e 1 v n xs) : ∃ a cap, v = .slice a n cap := by
  rcases h.2 with ⟨rfl, rfl⟩ | ⟨g, cap, cur, rfl, _⟩
  · exact ⟨none, 0, rfl⟩
  · exact ⟨_, cap, rfl⟩
/-- The four bytes of a cell, the most significant one first. -/
def bytes4 (n : Int) : List UInt8 := [UInt8.ofNat (n / 16777216).toNat, UInt8.ofNat (n / 65536 % 256).toNat, UInt8.ofNat (n / 256 % 256).toNat, UInt8.ofNat (n % 256).toNat]
theorem u8_toNat {n : Int} (h0 : 0 ≤ n) (h1 : n ≤ 255) : ((UInt8.ofNat n.toNat).toNat : Int) = n := by
  rw [UInt8.toNat_ofNat', Nat.mod_eq_of_lt (by omega)]; omega
theorem bytes4_cells (n : Int) (h0 : 0 ≤ n) (h1 : n ≤ 4294967295) : Lib.byteCells (bytes4 n) = [.int .u8 (n / 16777216), .int .u8 (n / 65536 % 256), .int .u8 (n / 256 % 256), .int .u8 (n % 256)] := by
  have a := u8_toNat (n := n / 16777216) (by omega) (by omega)
  have b := u8_toNat (n := n / 65536 % 256) (by omega) (by omega)
  have c := u8_toNat (n := n / 256 % 256) (by omega) (by omega)
  have d := u8_toNat (n := n % 256) (by omega) (by omega)
  unfold bytes4 Lib.byteCells
  simp only [List.map_cons, List.map_nil, a, b, c, d]
def growT (l : List Int) : List UInt8 := l.flatMap bytes4

set_option maxRecDepth 100000 in
set_option maxHeartbeats 2000000 in
theorem grow_Cells (l : List Int) (v : Value) (w : World) (hl : ListAt w.heap.size w v l) (hr : ∀ x ∈ l, 0 ≤ x ∧ x ≤ 4294967295) (hlen : l.length ≤ 1000) :
    Calls Tryz.prog 11 #[v] w fun e w' => e = .returned (.string ⟨(growT l).toArray⟩) ∧ Below w.heap.size w w' := by
  obtain ⟨a, cap, rfl, hc1, hc2, hat⟩ := hl
  have HA := Lib.hid hat; clear hat
  have HR := Lib.hid hr; clear hr
  go_enter Tryz.func11, Tryz.ntmps11
  go_wp2_with fail
  go_loopg [3, 8] (l.length) (fun f x y wr => ∃ (k : Nat) (acc : List UInt8), y = .int .i64 k ∧ k ≤ l.length ∧ l.length ≤ k + f ∧ Hid (growT l = acc ++ growT (l.drop k)) ∧ Hid (acc.length = 4 * k) ∧
    wr.ownsRow w.heap.size 5 1 x acc.length (Lib.byteCells acc) ∧ Below w.heap.size w wr)
  case atStart => exact ⟨0, [], rfl, by omega, by omega, rfl, rfl, World.ownsRow_nil _ _ _ _, Below.refl _ _⟩
  case round =>
    obtain ⟨k, acc, rfl, hk1, hk2, hA, hAL, hown, hb⟩ := hrel
    have hbs := hb.size
    by_cases hlt : k < l.length
    · obtain ⟨g, o, rfl, hg, hcell⟩ := HA.out (by omega)
      have hx := HR.out l[k] (List.getElem_mem hlt)
      have c0 := cell_new (hcell k hlt) hg hb
      have hstep := Lib.hid (show growT (l.drop k) = bytes4 l[k] ++ growT (l.drop (k + 1)) from by
        rw [List.drop_eq_getElem_cons hlt]; rfl)
      have g0 : (k : Int) < (l.length : Int) := by omega
      clear hcell
      generalize l[k] = n at hx c0 hstep
      obtain ⟨hx0, hx1⟩ := hx

      obtain ⟨ao, co, rfl⟩ := bytes_shape hown
      have i0' : (0 : Int) ≤ k := by omega
      obtain ⟨i0, hi, hz0, hz1, hz2⟩ := info_parts infoByte
      have hAL2 := hAL.out
      have HK := Lib.hid hAL2
      have hal : acc.length ≤ 4000 := by omega
      clear hAL2
      go_wp2_with (at_builtin; refine wpList_append_own _ rfl _ _ 77 rfl w.heap.size 5 i0 (.int .u8 0) 1 1 Tryz.underlying77 hi hz0 hz1 hz2 rfl (by decide) _ _ _ rfl (by exact World.ownsRow.alloc hown _) ⟨wr.heap.size, 0, none⟩ 4 4 [.int .u8 (n / 16777216), .int .u8 (n / 65536 % 256), .int .u8 (n / 256 % 256), .int .u8 (n % 256)] rfl rfl ?c1 ?c2 ?c3 ?c4 ?c5 ?_)
      case c1 => exact new_cells _ _ _ _ rfl _ rfl
      case c2 => intro u hu; simp at hu; rcases hu with rfl | rfl | rfl | rfl <;> rfl
      case c3 => unfold maxLen; omega
      case c4 => omega
      case c5 => simp; omega
      intro v' w3 hown' hgrow _
      have hb3 : Below w.heap.size w w3 := (hb.alloc hbs _).grown hgrow (by simp; omega) (fun g hg => by have := (hown.lt g hg).1; omega)
      have hown2 : w3.ownsRow w.heap.size 5 1 v' (acc ++ bytes4 n).length (Lib.byteCells (acc ++ bytes4 n)) := by
        have e := bytes4_cells n hx0 hx1
        have e2 : Lib.byteCells (acc ++ bytes4 n) = Lib.byteCells acc ++ Lib.byteCells (bytes4 n) := by simp [Lib.byteCells]
        rw [e2, e, List.length_append, show (bytes4 n).length = 4 from rfl]
        exact hown'
      clear hgrow hown'
      obtain ⟨ao', cap', rfl⟩ := bytes_shape hown2
      go_wp2_with fail
      go_roundg (gk - 1)
      case measure => omega
      case rel =>
        refine ⟨k + 1, acc ++ bytes4 n, by go_num, by omega, by omega, ?_, ?_, hown2, hb3⟩
        · show _ = _
          rw [hA.out, hstep.out]; simp
        · show _ = _
          rw [List.length_append, HK.out, show (bytes4 n).length = 4 from rfl]; omega
    · have hfin := Lib.hid (show growT l = acc from by rw [hA.out, List.drop_eq_nil_of_le (by omega)]; simp [growT])
      have hcv := bytes_conv hown
      obtain ⟨ao, co, rfl⟩ := bytes_shape hown
      go_wp2_with fail
      go_ret
      exact ⟨by rw [hfin.out]; rfl, hb⟩
end Go.Proofs.YthkoaakicdhnpaaGreat

namespace Go.Proofs.YthkoaakicdhnpaaGreat
open Go.RowKit

theorem and_cell (n : Int) (h0 : 0 ≤ n) (h1 : n ≤ 4611686018427387903) : bits .and .i64 n 4294967295 = n % 4294967296 := by
  obtain ⟨k, rfl⟩ := Int.eq_ofNat_of_zero_le h0
  have e1 : (BitVec.ofInt 64 (k : Int)).toNat = k := by
    rw [BitVec.toNat_ofInt]; norm_cast; omega
  have e2 : (BitVec.ofInt 64 (4294967295 : Int)).toNat = 2 ^ 32 - 1 := by rfl
  show IntKind.i64.wrap ((((BitVec.ofInt 64 (k : Int)) &&& (BitVec.ofInt 64 (4294967295 : Int))).toNat : Nat) : Int) = _
  rw [BitVec.toNat_and, e1, e2, Nat.and_two_pow_sub_one_eq_mod]
  rw [IntWalk.i64_in _ (by omega)]
  omega
theorem list_one (w : World) (x : Int) (t : TypeId) : ListAt (w.alloc (.cells #[.int .i64 x] t)).heap.size (w.alloc (.cells #[.int .i64 x] t)) (.slice (some ⟨w.heap.size, 0, none⟩) 1 1) [x] := by
  refine ⟨some ⟨w.heap.size, 0, none⟩, 1, rfl, Nat.le_refl _, by omega, fun _ => ⟨w.heap.size, 0, rfl, by simp, fun i hi => ?_⟩⟩
  have h := Holds.new w #[.int .i64 x] t
  match i, hi with
  | 0, _ => exact h.cell 0
theorem list_two (w : World) (x y : Int) (t : TypeId) : ListAt (w.alloc (.cells #[.int .i64 x, .int .i64 y] t)).heap.size (w.alloc (.cells #[.int .i64 x, .int .i64 y] t)) (.slice (some ⟨w.heap.size, 0, none⟩) 2 2) [x, y] := by
  refine ⟨some ⟨w.heap.size, 0, none⟩, 2, rfl, Nat.le_refl _, by omega, fun _ => ⟨w.heap.size, 0, rfl, by simp, fun i hi => ?_⟩⟩
  have h := Holds.new w #[.int .i64 x, .int .i64 y] t
  match i, hi with
  | 0, _ => exact h.cell 0
  | 1, _ => exact h.cell 1

end Go.Proofs.YthkoaakicdhnpaaGreat

namespace Go.Proofs.YthkoaakicdhnpaaGreat
open Go.RowKit

def sBus : ByteArray := ⟨#[98, 117, 115]⟩
def sDev : ByteArray := ⟨#[100, 101, 118]⟩
def sRanges : ByteArray := ⟨#[114, 97, 110, 103, 101, 115]⟩
def sReg : ByteArray := ⟨#[114, 101, 103]⟩
def tAwake : List NodeT := [⟨-1, ByteArray.empty, []⟩, ⟨0, sBus, [⟨sRanges, ⟨(growT [0, 4096, 256]).toArray⟩⟩]⟩, ⟨1, sDev, [⟨sReg, ⟨(growT [16, 4]).toArray⟩⟩]⟩]
theorem tAwake_trans : aTransT tAwake 2 0 = ((4112, 4), 0) := by kernel_rfl
theorem tAwake_regions : aRegionsT tAwake 2 = ([(16, 4)], 0) := by kernel_rfl
theorem props_one {R : Nat → Prop} {w : World} {p : Nat} {x y : ByteArray} {t : TypeId} (h : Holds w p #[.string x, .string y] t) (hR : R p) (hx : x.size ≤ 1000) (hy : y.size ≤ 1000) : PropsIn R w (.slice (some ⟨p, 0, none⟩) 1 1) [⟨x, y⟩] := by
  refine ⟨some ⟨p, 0, none⟩, 1, rfl, Nat.le_refl _, by omega, fun _ => ⟨p, 0, rfl, hR, fun k hk => ?_⟩⟩
  match k, hk with
  | 0, _ => exact ⟨h.cell 0, h.cell 1, by show x.size ≤ _; omega, by show y.size ≤ _; omega⟩
theorem tAwake_in {w : World} {B p1 p2 : Nat} {t1 t2 : TypeId} (h1 : Holds w p1 #[.string sRanges, .string ⟨(growT [0, 4096, 256]).toArray⟩] t1) (h2 : Holds w p2 #[.string sReg, .string ⟨(growT [16, 4]).toArray⟩] t1)
    (hn : Holds w B #[.int .i64 (-1), .string ByteArray.empty, .slice none 0 0, .int .i64 0, .string sBus, .slice (some ⟨p1, 0, none⟩) 1 1, .int .i64 1, .string sDev, .slice (some ⟨p2, 0, none⟩) 1 1] t2) :
    NodesIn (fun g => g < w.heap.size) w (.slice (some ⟨B, 0, none⟩) 3 3) tAwake := by
  refine ⟨some ⟨B, 0, none⟩, 3, rfl, Nat.le_refl _, by omega, fun _ => ⟨B, 0, rfl, hn.lt, fun k hk => ?_⟩⟩
  match k, hk with
  | 0, _ => exact ⟨_, hn.cell 0, hn.cell 1, hn.cell 2, ⟨none, 0, rfl, Nat.le_refl _, by omega, fun h => absurd h (Nat.lt_irrefl 0)⟩, by show (0 : Nat) ≤ _; omega, by show _ ≤ (-1 : Int); omega, by show (-1 : Int) ≤ _; omega⟩
  | 1, _ => exact ⟨_, hn.cell 3, hn.cell 4, hn.cell 5, props_one h1 h1.lt (by decide) (by decide), by show (3 : Nat) ≤ _; omega, by show _ ≤ (0 : Int); omega, by show (0 : Int) ≤ _; omega⟩
  | 2, _ => exact ⟨_, hn.cell 6, hn.cell 7, hn.cell 8, props_one h2 h2.lt (by decide) (by decide), by show (3 : Nat) ≤ _; omega, by show _ ≤ (1 : Int); omega, by show (1 : Int) ≤ _; omega⟩
end Go.Proofs.YthkoaakicdhnpaaGreat

namespace Go.Proofs.YthkoaakicdhnpaaGreat
open Go.RowKit

theorem list_three (w : World) (x y z : Int) (t : TypeId) : ListAt (w.alloc (.cells #[.int .i64 x, .int .i64 y, .int .i64 z] t)).heap.size (w.alloc (.cells #[.int .i64 x, .int .i64 y, .int .i64 z] t)) (.slice (some ⟨w.heap.size, 0, none⟩) 3 3) [x, y, z] := by
  refine ⟨some ⟨w.heap.size, 0, none⟩, 3, rfl, Nat.le_refl _, by omega, fun _ => ⟨w.heap.size, 0, rfl, by simp, fun i hi => ?_⟩⟩
  have h := Holds.new w #[.int .i64 x, .int .i64 y, .int .i64 z] t
  match i, hi with
  | 0, _ => exact h.cell 0
  | 1, _ => exact h.cell 1
  | 2, _ => exact h.cell 2

theorem Holds.newB {w : World} {B : Nat} (hB : w.heap.size = B) (cs : Array Value) (t : TypeId) : Holds (w.alloc (.cells cs t)) B cs t := by
  subst hB; exact Holds.new w cs t
theorem list_twoB {w : World} {B : Nat} (hB : w.heap.size = B) (x y : Int) (t : TypeId) : ListAt (w.alloc (.cells #[.int .i64 x, .int .i64 y] t)).heap.size (w.alloc (.cells #[.int .i64 x, .int .i64 y] t)) (.slice (some ⟨B, 0, none⟩) 2 2) [x, y] := by
  subst hB; exact list_two w x y t

set_option maxRecDepth 100000 in
set_option maxHeartbeats 2000000 in
theorem law_awake (w : World) :
    Calls Tryz.prog 5 #[] w fun e w' => e = .returned (.bool true) ∧ Below w.heap.size w w' := by
  have b1 := Lib.hid (show ∀ x ∈ [(0 : Int), 4096, 256], 0 ≤ x ∧ x ≤ 4294967295 from by decide)
  have b2 := Lib.hid (show ∀ x ∈ [(16 : Int), 4], 0 ≤ x ∧ x ≤ 4294967295 from by decide)
  go_enter Tryz.func5, Tryz.ntmps5
  go_wp2_with fail
  refine (grow_Cells _ _ _ (list_three w _ _ _ _) (by exact b1.out) (by simp)).mono ?_
  rintro e w1 ⟨rfl, hb1⟩
  have hb2 := ((Below.refl w.heap.size w).alloc (Nat.le_refl _) _).trans (hb1.mono (by simp))
  generalize hv1 : growT [0, 4096, 256] = V1
  have HV1 := Lib.hid hv1; clear hv1
  have hs1 := hb2.size
  have hP0 := (Holds.new w1 #[.string ⟨#[114, 97, 110, 103, 101, 115]⟩, .string ⟨V1.toArray⟩] 65).alloc (.cells #[.int .i64 16, .int .i64 4] 3)
  go_wp2_with fail
  refine (grow_Cells [16, 4] _ _ (by exact list_twoB (by simp) 16 4 _) (by exact b2.out) (by simp)).mono ?_
  rintro e w2 ⟨rfl, hb3⟩
  have hb4 := ((hb2.alloc hs1 _).alloc (by simp; omega) _).trans (hb3.mono (by simp; omega))
  have hP1 := hP0.keeps (Keeps.of_fresh hb3 (fun _ => False)) (fun e => e)
  clear hP0
  generalize hv2 : growT [16, 4] = V2
  have HV2 := Lib.hid hv2; clear hv2
  have hs2 := hb4.size
  go_wp2_with fail
  refine (address_Translate (fun g => g < _) _ tAwake 2 0 _ (by
    have hv1 := HV1.out
    have hv2 := HV2.out
    subst hv1; subst hv2
    exact tAwake_in (((hP1.alloc _).alloc _).alloc _) (((Holds.new w2 _ _).alloc _).alloc _) ((Holds.newB (by simp) _ _).alloc _))).mono ?_
  rintro e w3 ⟨rfl, hb5⟩
  simp only [tAwake_trans]
  have hk5 := Keeps.of_fresh hb5 (fun _ => False)
  have hT := (Holds.newB (w := (w2.alloc _).alloc _) (B := w2.heap.size + 1 + 1) (by simp) _ _).keeps hk5 (fun e => e)
  have bx := hT.cell 0
  have blt := hT.lt
  go_wp2_with fail
  refine (address_Regions (fun g => g < _) _ tAwake 2 _ (by
    have hv1 := HV1.out
    have hv2 := HV2.out
    subst hv1; subst hv2
    exact tAwake_in (((((hP1.alloc _).alloc _).alloc _).keeps hk5 (fun e => e)).alloc _) (((((Holds.new w2 _ _).alloc _).alloc _).keeps hk5 (fun e => e)).alloc _) ((((Holds.newB (by simp) _ _).alloc _).keeps hk5 (fun e => e)).alloc _))).mono ?_
  rintro e w4 ⟨rv, rfl, hown, hb6⟩
  simp only [tAwake_regions] at hown ⊢
  have hk6 := Keeps.of_fresh hb6 (fun _ => False)
  have hR := (Holds.new w3 #[.int .i64 4112, .int .i64 4] 56).keeps hk6 (fun e => e)
  have r0 := hR.cell 0
  have r1 := hR.cell 1
  have rlt := hR.lt
  obtain ⟨gl, cl, rfl, q1, q2, q3, f0, f1⟩ := pair_cells_at (l := [(16, 4)]) hown 0 (by decide)
  have hb7 := (((((hb4.alloc hs2 _).alloc (by simp; omega) _).alloc (by simp; omega) _).trans (hb5.mono (by simp; omega))))
  have hb8 := (hb7.alloc hb7.size _).trans (hb6.mono (by simp; have := hb7.size; omega))
  go_wp2_with fail
  go_ret
  exact ⟨rfl, hb8⟩
end Go.Proofs.YthkoaakicdhnpaaGreat
