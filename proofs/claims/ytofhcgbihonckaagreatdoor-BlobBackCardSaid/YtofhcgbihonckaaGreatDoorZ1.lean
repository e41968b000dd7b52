/- What the functions of token compute, in plain Lean: bytes. | Trees, and what Check of tree computes, in plain Lean. | The order of texts is whole; what a search finds. | Paths of nodes, and their order, in plain Lean: a component is a name and an index. | The order of a walk, in plain Lean: what walk of bringupref03 computes, and that it is the order of the paths. | A list of nodes is walked just if its paths ascend, in plain Lean. | The checks of the reference of tree and those of tree are the same, in plain Lean: order, and twins. | Paths as texts, and the node with a path, in plain Lean. | A list of nodes in the order of its walk, in plain Lean. | What Add of the reference of tree computes, in plain Lean. | What Put and Set of the reference of tree compute, in plain Lean. | The shape of trees that Add and Set give, in plain Lean. | Set keeps a valid tree valid, in plain Lean. -/
import Derived.Test.YtofhcgbihonckaaGreatDoorRows
import Derived.Lib.IndexMore
import Derived.Lib.IndexAny
import Derived.Lib.Strings
import Derived.Lib.Bytes2
import Derived.Laws.Strings

set_option linter.unusedVariables false
set_option linter.unusedSimpArgs false
set_option linter.unusedSectionVars false

open Go
namespace Go.Proofs.YtofhcgbihonckaaGreatDoor

def letterB (c : Int) : Bool := decide (97 ≤ c ∧ c ≤ 122 ∨ 65 ≤ c ∧ c ≤ 90)
def digitB (c : Int) : Bool := decide (48 ≤ c ∧ c ≤ 57)
def wordB (c : Int) : Bool := letterB c || digitB c || decide (c = 95)
def memB (l : List UInt8) (c : Int) : Bool := l.any fun x => decide ((x.toNat : Int) = c)
def punctB (c : Int) : Bool := memB [44, 46, 43, 45, 63, 35, 64] c
def nameB (c : Int) : Bool := wordB c || punctB c
def smallB (c : Int) : Bool := decide (97 ≤ c ∧ c ≤ 122 ∨ c = 45)
def hexV (c : Int) : Int := if 48 ≤ c ∧ c ≤ 57 then c - 48 else if 97 ≤ c ∧ c ≤ 102 then c - 87 else if 65 ≤ c ∧ c ≤ 70 then c - 55 else -1
def allB (p : Int → Bool) (l : List UInt8) : Bool := l.all fun x => p x.toNat
def runB (p : Int → Bool) (l : List UInt8) : Nat := (l.takeWhile fun x => p x.toNat).length

theorem drop_cons (s : ByteArray) (k : Nat) (h : k < s.size) : s.data.toList.drop k = s[k] :: s.data.toList.drop (k + 1) := by
  have h' : k < s.data.toList.length := by simpa using h
  rw [List.drop_eq_getElem_cons h']; rfl
theorem drop_end (s : ByteArray) (k : Nat) (h : s.size ≤ k) : s.data.toList.drop k = [] :=
  List.drop_eq_nil_of_le (by simpa using h)
theorem byte_lt (b : UInt8) : (b.toNat : Int) ≤ 255 := by have := b.toNat_lt; omega
theorem allB_cons (p : Int → Bool) (x : UInt8) (l : List UInt8) : allB p (x :: l) = (p x.toNat && allB p l) := by simp [allB]
theorem runB_cons (p : Int → Bool) (x : UInt8) (l : List UInt8) : runB p (x :: l) = if p x.toNat = true then runB p l + 1 else 0 := by
  unfold runB; by_cases h : p x.toNat = true <;> simp [h]
theorem runB_le (p : Int → Bool) (l : List UInt8) : runB p l ≤ l.length := (List.takeWhile_sublist _).length_le

/-- Line and column behind some bytes. -/
def adv : List UInt8 → Int × Int → Int × Int
  | [], p => p
  | x :: l, p => adv l (if x.toNat = 10 then (p.1 + 1, 1) else (p.1, p.2 + 1))
theorem adv_snoc (l : List UInt8) (x : UInt8) : ∀ p, adv (l ++ [x]) p = if x.toNat = 10 then ((adv l p).1 + 1, 1) else ((adv l p).1, (adv l p).2 + 1) := by
  induction l with
  | nil => intro p; simp [adv]
  | cons y l ih => intro p; simp only [List.cons_append, adv]; rw [ih]
theorem adv_append (l m : List UInt8) : ∀ p, adv (l ++ m) p = adv m (adv l p) := by
  induction l with
  | nil => intro p; simp [adv]
  | cons y l ih => intro p; simp only [List.cons_append, adv]; rw [ih]
theorem take_snoc (s : ByteArray) (k : Nat) (h : k < s.size) : s.data.toList.take (k + 1) = s.data.toList.take k ++ [s[k]] := by
  rw [List.take_succ_eq_append_getElem (by simpa using h)]; rfl
theorem adv_bd (l : List UInt8) : ∀ p : Int × Int, 1 ≤ p.1 → 1 ≤ p.2 → 1 ≤ (adv l p).1 ∧ 1 ≤ (adv l p).2 ∧ (adv l p).1 ≤ p.1 + l.length ∧ (adv l p).2 ≤ p.2 + l.length := by
  induction l with
  | nil => intro p h1 h2; simp [adv]; omega
  | cons y l ih =>
    intro p h1 h2
    simp only [adv, List.length_cons]
    split
    · have := ih (p.1 + 1, 1) (by simp; omega) (by simp); simp at this ⊢; omega
    · have := ih (p.1, p.2 + 1) (by simpa using h1) (by simp; omega); simp at this ⊢; omega

theorem idx_mem (l : List UInt8) (c : Int) (h0 : 0 ≤ c) (h1 : c ≤ 255) : decide (0 ≤ Lib.indexByte l c.toNat.toUInt8) = memB l c := by
  rw [← Lib.contains_iff_indexByte, Bool.eq_iff_iff]
  simp only [List.contains_iff_mem, memB, List.any_eq_true, decide_eq_true_eq]
  have e : c.toNat.toUInt8.toNat = c.toNat := by simp [Nat.toUInt8]; omega
  constructor
  · intro h; exact ⟨_, h, by rw [e]; omega⟩
  · rintro ⟨x, hx, hxc⟩
    have : x = c.toNat.toUInt8 := by apply UInt8.toNat_inj.1; rw [e]; omega
    exact this ▸ hx

theorem idx_byte (l : List UInt8) (b : UInt8) : decide (0 ≤ Lib.indexByte l b) = memB l b.toNat := by
  rw [← idx_mem l b.toNat (by omega) (byte_lt _)]; simp
theorem idx_yes {l : List UInt8} {b : UInt8} (h : 0 ≤ Lib.indexByte l b) : memB l b.toNat = true := by rw [← idx_byte]; simpa using h
theorem idx_no {l : List UInt8} {b : UInt8} (h : Lib.indexByte l b < 0) : memB l b.toNat = false := by rw [← idx_byte]; simpa using h
/-- Name and Label. -/
def nameT (l : List UInt8) : Bool := decide (1 ≤ l.length ∧ l.length ≤ 31) && (letterB (l.headD 0).toNat || decide (((l.headD 0).toNat : Int) = 95)) && allB nameB l
def labelT (l : List UInt8) : Bool := decide (1 ≤ l.length ∧ l.length ≤ 31) && !digitB (l.headD 0).toNat && allB wordB l
theorem head_of (s : ByteArray) (h : 0 < s.size) : s.data.toList.headD 0 = s[0] := by
  have := drop_cons s 0 h
  rw [List.drop_zero] at this
  rw [this]; rfl
def sepB (c : Int) : Bool := memB [32, 9, 13, 10] c
def notNlB (c : Int) : Bool := decide (c ≠ 10)
end Go.Proofs.YtofhcgbihonckaaGreatDoor

open Go
namespace Go.Proofs.YtofhcgbihonckaaGreatDoor

structure PropT where
  name : ByteArray
  value : ByteArray
  deriving DecidableEq
structure NodeT where
  parent : Int
  name : ByteArray
  props : List PropT
  deriving DecidableEq
instance : Inhabited NodeT := ⟨⟨-1, ByteArray.empty, []⟩⟩

/-- The order of texts, and sameness. -/
def ltS (a b : ByteArray) : Bool := Op.bytesLess a.toList b.toList
def eqS (a b : ByteArray) : Bool := a.toList == b.toList
def parOf (T : List NodeT) (i : Nat) : Int := match T[i]? with
  | some n => n.parent
  | none => -1
theorem parOf_at {T : List NodeT} {i : Nat} (h : i < T.length) : parOf T i = T[i].parent := by
  unfold parOf; rw [List.getElem?_eq_getElem h]

/-- Is it the name of a property? -/
def propT (l : List UInt8) : Bool :=
  if Lib.hasPrefix l [35] = true then nameT (95 :: l.drop 1) && !memB (95 :: l.drop 1) 64 else nameT l && !memB l 64
def propB (s : ByteArray) : Bool := propT s.data.toList
def fitB (n : NodeT) : Bool := decide (n.props.length ≤ 24) && n.props.all fun p => decide (p.value.size ≤ 256)
def limitsT (T : List NodeT) : Bool := decide (1 ≤ T.length ∧ T.length ≤ 120) && T.all fitB
def headB (i : Nat) (n : NodeT) : Bool :=
  if i = 0 then decide (n.parent = -1) && eqS n.name ByteArray.empty else decide (0 ≤ n.parent ∧ n.parent < i) && nameT n.name.data.toList
def namedF : Nat → List NodeT → Bool
  | _, [] => true
  | i, n :: r => headB i n && (n.props.all fun p => propB p.name) && namedF (i + 1) r
def namedT (T : List NodeT) : Bool := namedF 0 T
/-- Are the names of properties ascending? -/
def ascT : List PropT → Bool
  | [] => true
  | [_] => true
  | a :: b :: r => ltS a.name b.name && ascT (b :: r)
/-- The first node from one on upwards whose number is p, -1 if there is none. -/
def upT3 (T : List NodeT) (p : Int) : Nat → Int → Int
  | 0, u => u
  | f + 1, u => if u < 0 ∨ u = p then u else upT3 T p f (parOf T u.toNat)
def walkedF (T : List NodeT) : Nat → List ByteArray → List NodeT → Bool
  | _, _, [] => true
  | i, last, n :: r => ascT n.props && (if i = 0 then walkedF T 1 last r else
      let u := upT3 T n.parent (i + 1) (i - 1)
      decide (0 ≤ u) && !ltS n.name (last.getD u.toNat ByteArray.empty) && walkedF T (i + 1) (last.set u.toNat n.name) r)
def walkedT (T : List NodeT) : Bool := walkedF T 0 (List.replicate T.length ByteArray.empty) T
def twinF : Nat → List (ByteArray × Int) → List NodeT → Bool
  | _, _, [] => false
  | i, seen, n :: r => (decide (0 < i) && seen.any (fun x => eqS x.1 n.name && decide (x.2 = n.parent))) || twinF (i + 1) (seen ++ [(n.name, n.parent)]) r
def twinT (T : List NodeT) : Bool := twinF 0 [] T
/-- How many steps are there to the root? -/
def depF (T : List NodeT) : Nat → Int → Nat
  | 0, _ => 0
  | f + 1, u => if 0 < u then depF T f (parOf T u.toNat) + 1 else 0
def depT (T : List NodeT) (i : Nat) : Nat := depF T T.length i
def deepT (T : List NodeT) : Bool := (List.range T.length).any fun i => decide (8 < depT T i)
def checkT (T : List NodeT) : Int :=
  if limitsT T = false then 3 else if namedT T = false then 1 else if walkedT T = false then 12 else if twinT T = true then 5 else if deepT T = true then 2 else 0

theorem namedF_cons {i : Nat} {n : NodeT} {r : List NodeT} : namedF i (n :: r) = (headB i n && (n.props.all fun p => propB p.name) && namedF (i + 1) r) := rfl
theorem named_at : ∀ (T : List NodeT) (i : Nat), namedF i T = true → ∀ k (h : k < T.length), headB (i + k) T[k] = true ∧ T[k].props.all (fun p => propB p.name) = true := by
  intro T
  induction T with
  | nil => intro i _ k h; simp at h
  | cons n r ih =>
    intro i h k hk
    rw [namedF_cons, Bool.and_eq_true, Bool.and_eq_true] at h
    cases k with
    | zero => exact ⟨h.1.1, h.1.2⟩
    | succ k =>
      have := ih (i + 1) h.2 k (by simpa using hk)
      rw [show i + 1 + k = i + (k + 1) from by omega] at this
      exact this
/-- Parents of a named tree. -/
theorem named_par {T : List NodeT} (h : namedT T = true) (k : Nat) (hk : k < T.length) : (k = 0 → T[k].parent = -1) ∧ (0 < k → 0 ≤ T[k].parent ∧ T[k].parent < k) := by
  have := (named_at T 0 h k hk).1
  rw [Nat.zero_add] at this
  unfold headB at this
  constructor
  · intro h0; rw [if_pos h0] at this; simp at this; exact this.1
  · intro h0; rw [if_neg (by omega)] at this; simp at this; exact ⟨this.1.1, this.1.2⟩
theorem depF_fuel {T : List NodeT} (h : namedT T = true) : ∀ (n : Nat) (u : Int), u.toNat ≤ n → u < T.length → ∀ f g, u.toNat ≤ f → u.toNat ≤ g → depF T f u = depF T g u := by
  intro n
  induction n with
  | zero =>
    intro u hu _ f g _ _
    have : ¬ 0 < u := by omega
    cases f <;> cases g <;> simp [depF, this]
  | succ n ih =>
    intro u hu hl f g hf hg
    by_cases h0 : 0 < u
    · obtain ⟨f, rfl⟩ : ∃ f', f = f' + 1 := ⟨f - 1, by omega⟩
      obtain ⟨g, rfl⟩ : ∃ f', g = f' + 1 := ⟨g - 1, by omega⟩
      have hk : u.toNat < T.length := by omega
      have hp := (named_par h u.toNat hk).2 (by omega)
      have hpe := parOf_at hk
      simp only [depF]
      rw [if_pos h0, if_pos h0, ih _ (by omega) (by omega) f g (by omega) (by omega)]
    · cases f <;> cases g <;> simp [depF, h0]
end Go.Proofs.YtofhcgbihonckaaGreatDoor

namespace Go.Proofs.YtofhcgbihonckaaGreatDoor

theorem less_cons (x y : UInt8) (a b : List UInt8) : Op.bytesLess (x :: a) (y :: b) = true ↔ x.toNat < y.toNat ∨ x = y ∧ Op.bytesLess a b = true := by
  rw [Op.bytesLess]
  simp [UInt8.lt_iff_toNat_lt]
theorem less_trans : ∀ (a b c : List UInt8), Op.bytesLess a b = true → Op.bytesLess b c = true → Op.bytesLess a c = true := by
  intro a
  induction a with
  | nil => intro b c h1 h2; cases b <;> cases c <;> simp [Op.bytesLess] at *
  | cons x a ih =>
    intro b c h1 h2
    cases b with
    | nil => simp [Op.bytesLess] at h1
    | cons y b =>
      cases c with
      | nil => simp [Op.bytesLess] at h2
      | cons z c =>
        rw [less_cons] at *
        rcases h1 with h1 | ⟨rfl, h1⟩
        · rcases h2 with h2 | ⟨rfl, h2⟩
          · left; omega
          · left; exact h1
        · rcases h2 with h2 | ⟨rfl, h2⟩
          · left; exact h2
          · right; exact ⟨rfl, ih _ _ h1 h2⟩
theorem less_irrefl : ∀ a : List UInt8, Op.bytesLess a a = false := by
  intro a
  induction a with
  | nil => rfl
  | cons x a ih =>
    rw [Bool.eq_false_iff, Ne, less_cons]
    rintro (h | ⟨_, h⟩)
    · omega
    · rw [ih] at h; cases h
theorem less_total : ∀ a b : List UInt8, Op.bytesLess a b = false → a = b ∨ Op.bytesLess b a = true := by
  intro a
  induction a with
  | nil => intro b h; cases b <;> simp [Op.bytesLess] at *
  | cons x a ih =>
    intro b h
    cases b with
    | nil => right; rfl
    | cons y b =>
      rw [Bool.eq_false_iff, Ne, less_cons] at h
      rw [less_cons]
      by_cases e : x = y
      · subst e
        have h2 : Op.bytesLess a b = false := by rw [Bool.eq_false_iff]; intro hc; exact h (.inr ⟨rfl, hc⟩)
        rcases ih b h2 with rfl | h3
        · exact .inl rfl
        · exact .inr (.inr ⟨rfl, h3⟩)
      · right; left
        have : x.toNat ≠ y.toNat := fun e2 => e (UInt8.toNat_inj.1 e2)
        omega
theorem ltS_trans {a b c : ByteArray} (h1 : ltS a b = true) (h2 : ltS b c = true) : ltS a c = true := less_trans _ _ _ h1 h2
theorem ltS_irrefl (a : ByteArray) : ltS a a = false := less_irrefl _
theorem eqS_iff (a b : ByteArray) : eqS a b = true ↔ a = b := by
  unfold eqS
  rw [ByteArray.toList_eq, ByteArray.toList_eq]
  simp only [beq_iff_eq]
  constructor
  · intro h; apply ByteArray.ext; exact Array.toList_inj.1 h
  · rintro rfl; rfl
theorem ltS_total {a b : ByteArray} (h : ltS a b = false) : a = b ∨ ltS b a = true := by
  rcases less_total _ _ h with h | h
  · left; exact (eqS_iff a b).1 (by unfold eqS; rw [h]; simp)
  · exact .inr h
def cmpS (a b : ByteArray) : Int := if ltS a b = true then -1 else if eqS a b = true then 0 else 1
/-- How many names are less; is there one that is the same? -/
def lowT (ps : List PropT) (x : ByteArray) : Nat := (ps.takeWhile fun p => ltS p.name x).length
def hasT (ps : List PropT) (x : ByteArray) : Bool := match ps[lowT ps x]? with
  | some p => eqS p.name x
  | none => false
theorem takeWhile_at {α : Type} (p : α → Bool) : ∀ (l : List α) (i : Nat), i ≤ l.length → (∀ k (h : k < l.length), k < i → p l[k] = true) → (∀ h : i < l.length, p l[i] = false) → (l.takeWhile p).length = i := by
  intro l
  induction l with
  | nil => intro i h _ _; simp at h; simp [h]
  | cons x l ih =>
    intro i hi h1 h2
    cases i with
    | zero => have := h2 (by simp); simp at this; simp [this]
    | succ i =>
      have hx := h1 0 (by simp) (by omega)
      simp at hx
      rw [List.takeWhile_cons, if_pos hx, List.length_cons, ih i (by simpa using hi)]
      · intro k hk hki
        have := h1 (k + 1) (by simpa using hk) (by omega)
        simpa using this
      · intro h
        have := h2 (by simpa using h)
        simpa using this
theorem asc_lt : ∀ (l : List PropT), ascT l = true → ∀ i j (hi : i < l.length) (hj : j < l.length), i < j → ltS l[i].name l[j].name = true := by
  intro l
  induction l with
  | nil => intro _ i j hi; simp at hi
  | cons a l ih =>
    intro h i j hi hj hij
    cases l with
    | nil => simp at hj; omega
    | cons b r =>
      simp only [ascT, Bool.and_eq_true] at h
      have ih2 := ih h.2
      cases j with
      | zero => omega
      | succ j =>
        cases i with
        | zero =>
          cases j with
          | zero => exact h.1
          | succ j =>
            have := ih2 0 (j + 1) (by simp) (by simpa using hj) (by omega)
            exact ltS_trans h.1 this
        | succ i => exact ih2 i j (by simpa using hi) (by simpa using hj) (by omega)
theorem walkedF_asc (T : List NodeT) : ∀ (r : List NodeT) (i : Nat) (last : List ByteArray), walkedF T i last r = true → ∀ n ∈ r, ascT n.props = true := by
  intro r
  induction r with
  | nil => intro i last _ n hn; simp at hn
  | cons m r ih =>
    intro i last h n hn
    simp only [walkedF, Bool.and_eq_true] at h
    rcases List.mem_cons.1 hn with rfl | hn
    · exact h.1
    · by_cases h0 : i = 0
      · rw [if_pos h0] at h; exact ih _ _ h.2 n hn
      · rw [if_neg h0] at h
        simp only [Bool.and_eq_true] at h
        exact ih _ _ h.2.2 n hn
theorem check_asc {T : List NodeT} (h : checkT T = 0) : ∀ n ∈ T, ascT n.props = true := by
  have hw : walkedT T = true := by
    unfold checkT at h
    cases hw : walkedT T with
    | true => rfl
    | false => exfalso; revert h; cases limitsT T <;> cases namedT T <;> simp [hw]
  exact walkedF_asc T T 0 _ hw
theorem check_named {T : List NodeT} (h : checkT T = 0) : namedT T = true := by
  unfold checkT at h
  cases hw : namedT T with
  | true => rfl
  | false => exfalso; revert h; cases limitsT T <;> simp [hw]
theorem check_limits {T : List NodeT} (h : checkT T = 0) : limitsT T = true := by
  unfold checkT at h
  cases hw : limitsT T with
  | true => rfl
  | false => exfalso; revert h; simp [hw]
theorem limits_len {T : List NodeT} (h : limitsT T = true) : 1 ≤ T.length ∧ T.length ≤ 120 := by
  unfold limitsT at h; simp at h; exact h.1
def valueT (T : List NodeT) (node : Int) (x : ByteArray) : ByteArray × Bool :=
  if checkT T ≠ 0 ∨ node < 0 ∨ T.length ≤ node then (ByteArray.empty, false) else
    match T[node.toNat]? with
    | none => (ByteArray.empty, false)
    | some n => if hasT n.props x = true then (match n.props[lowT n.props x]? with | some p => p.value | none => ByteArray.empty, true) else (ByteArray.empty, false)
end Go.Proofs.YtofhcgbihonckaaGreatDoor

open Go
namespace Go.Proofs.YtofhcgbihonckaaGreatDoor

abbrev Comp := ByteArray × Nat
def ltC (a b : Comp) : Prop := ltS a.1 b.1 = true ∨ (a.1 = b.1 ∧ a.2 < b.2)
def ltP : List Comp → List Comp → Prop
  | [], [] => False
  | [], _ :: _ => True
  | _ :: _, [] => False
  | a :: p, b :: q => ltC a b ∨ (a = b ∧ ltP p q)
theorem ltC_irrefl (a : Comp) : ¬ ltC a a := by
  rintro (h | ⟨_, h⟩)
  · rw [ltS_irrefl] at h; cases h
  · omega
theorem ltC_trans {a b c : Comp} (h : ltC a b) (k : ltC b c) : ltC a c := by
  rcases h with h | ⟨h, h2⟩ <;> rcases k with k | ⟨k, k2⟩
  · exact .inl (ltS_trans h k)
  · exact .inl (by rw [← k]; exact h)
  · exact .inl (by rw [h]; exact k)
  · exact .inr ⟨h.trans k, by omega⟩
theorem ltC_asymm {a b : Comp} (h : ltC a b) (k : ltC b a) : False := ltC_irrefl a (ltC_trans h k)
theorem ltP_irrefl : ∀ p : List Comp, ¬ ltP p p
  | [], h => h
  | a :: p, h => by
    rcases h with h | ⟨_, h⟩
    · exact ltC_irrefl a h
    · exact ltP_irrefl p h
theorem ltP_trans : ∀ {p q r : List Comp}, ltP p q → ltP q r → ltP p r
  | [], [], _, h, _ => h.elim
  | [], _ :: _, [], _, k => k.elim
  | [], _ :: _, _ :: _, _, _ => trivial
  | _ :: _, [], _, h, _ => h.elim
  | _ :: _, _ :: _, [], _, k => k.elim
  | a :: p, b :: q, c :: r, h, k => by
    rcases h with h | ⟨rfl, h⟩
    · rcases k with k | ⟨rfl, k⟩
      · exact .inl (ltC_trans h k)
      · exact .inl h
    · rcases k with k | ⟨rfl, k⟩
      · exact .inl k
      · exact .inr ⟨rfl, ltP_trans h k⟩
theorem ltP_asymm {p q : List Comp} (h : ltP p q) (k : ltP q p) : False := ltP_irrefl p (ltP_trans h k)
theorem ltP_longer : ∀ (p : List Comp) (x : Comp) (q : List Comp), ltP p (p ++ x :: q)
  | [], _, _ => trivial
  | _ :: p, x, q => .inr ⟨rfl, ltP_longer p x q⟩
theorem ltP_split : ∀ (p : List Comp) {x y : Comp} (q r : List Comp), ltC x y → ltP (p ++ x :: q) (p ++ y :: r)
  | [], _, _, _, _, h => .inl h
  | _ :: p, _, _, q, r, h => .inr ⟨rfl, ltP_split p q r h⟩
theorem ltP_last : ∀ (p : List Comp) {x y : Comp}, ltP (p ++ [x]) (p ++ [y]) → ltC x y
  | [], _, _, h => by
    rcases h with h | ⟨_, h⟩
    · exact h
    · exact h.elim
  | a :: p, _, _, h => by
    rcases h with h | ⟨_, h⟩
    · exact (ltC_irrefl a h).elim
    · exact ltP_last p h
theorem ltP_between : ∀ (p m : List Comp) (x : Comp), ltP p m → ltP m (p ++ [x]) → ∃ y q, m = p ++ y :: q ∧ ltC y x
  | [], [], _, h, _ => h.elim
  | [], y :: q, x, _, k => by
    rcases k with k | ⟨rfl, k⟩
    · exact ⟨y, q, rfl, k⟩
    · cases q <;> exact k.elim
  | _ :: _, [], _, h, _ => h.elim
  | a :: p, b :: m, x, h, k => by
    rcases h with h | ⟨rfl, h⟩
    · rcases k with k | ⟨rfl, _⟩
      · exact (ltC_asymm h k).elim
      · exact (ltC_irrefl _ h).elim
    · rcases k with k | ⟨_, k⟩
      · exact (ltC_irrefl _ k).elim
      · obtain ⟨y, q, rfl, hy⟩ := ltP_between p m x h k
        exact ⟨y, q, rfl, hy⟩

def nameOf (T : List NodeT) (i : Nat) : ByteArray := match T[i]? with
  | some n => n.name
  | none => ByteArray.empty
def propsOf (T : List NodeT) (i : Nat) : List PropT := match T[i]? with
  | some n => n.props
  | none => []
theorem nameOf_at {T : List NodeT} {i : Nat} (h : i < T.length) : nameOf T i = T[i].name := by unfold nameOf; rw [List.getElem?_eq_getElem h]
theorem propsOf_at {T : List NodeT} {i : Nat} (h : i < T.length) : propsOf T i = T[i].props := by unfold propsOf; rw [List.getElem?_eq_getElem h]
/-- Parents lie ahead of their children. -/
def Par (T : List NodeT) : Prop := ∀ i, 0 < i → i < T.length → 0 ≤ parOf T i ∧ parOf T i < i
theorem par_of_named {T : List NodeT} (h : namedT T = true) : Par T := by
  intro i h0 hi
  have := (named_par h i hi).2 h0
  rw [parOf_at hi]; exact this
def parN (T : List NodeT) (i : Nat) : Nat := (parOf T i).toNat
theorem parN_lt {T : List NodeT} (h : Par T) {i : Nat} (h0 : 0 < i) (hi : i < T.length) : parN T i < i ∧ (parN T i : Int) = parOf T i := by
  have := h i h0 hi; unfold parN; omega
def pathF (T : List NodeT) : Nat → Nat → List Comp
  | 0, _ => []
  | f + 1, i => if i = 0 then [] else pathF T f (parN T i) ++ [(nameOf T i, i)]
def pc (T : List NodeT) (i : Nat) : List Comp := pathF T i i
theorem pathF_fuel {T : List NodeT} (h : Par T) : ∀ (n i f : Nat), i ≤ n → i < T.length → i ≤ f → pathF T f i = pc T i := by
  intro n
  induction n with
  | zero =>
    intro i f hi _ _
    have : i = 0 := by omega
    subst this
    cases f <;> simp [pathF, pc]
  | succ n ih =>
    intro i f hi hl hf
    by_cases h0 : i = 0
    · subst h0; cases f <;> simp [pathF, pc]
    · obtain ⟨f, rfl⟩ : ∃ g, f = g + 1 := ⟨f - 1, by omega⟩
      obtain ⟨i, rfl⟩ : ∃ j, i = j + 1 := ⟨i - 1, by omega⟩
      have hp := parN_lt h (by omega : 0 < i + 1) hl
      unfold pc
      simp only [pathF]
      rw [if_neg h0, if_neg h0, ih (parN T (i + 1)) f (by omega) (by omega) (by omega), ih (parN T (i + 1)) i (by omega) (by omega) (by omega)]
theorem pc_zero (T : List NodeT) : pc T 0 = [] := rfl
theorem pc_succ {T : List NodeT} (h : Par T) {i : Nat} (h0 : 0 < i) (hi : i < T.length) : pc T i = pc T (parN T i) ++ [(nameOf T i, i)] := by
  obtain ⟨i, rfl⟩ : ∃ j, i = j + 1 := ⟨i - 1, by omega⟩
  have hp := parN_lt h h0 hi
  show pathF T (i + 1) (i + 1) = _
  simp only [pathF]
  rw [if_neg (by omega), pathF_fuel h _ _ _ (Nat.le_refl _) (by omega) (by omega)]
theorem pc_inj {T : List NodeT} (h : Par T) {i j : Nat} (hi : i < T.length) (hj : j < T.length) (e : pc T i = pc T j) : i = j := by
  by_cases h0 : i = 0 <;> by_cases h1 : j = 0
  · omega
  · subst h0
    rw [pc_zero, pc_succ h (by omega) hj] at e
    have := congrArg List.length e; simp at this
  · subst h1
    rw [pc_zero, pc_succ h (by omega) hi] at e
    have := congrArg List.length e; simp at this
  · rw [pc_succ h (by omega) hi, pc_succ h (by omega) hj] at e
    have := List.append_inj_right' e rfl
    simp at this
    exact this.2
/-- Is u the node v, or above it? -/
def Und (T : List NodeT) (u v : Nat) : Prop := pc T u <+: pc T v
theorem und_refl (T : List NodeT) (u : Nat) : Und T u u := List.prefix_refl _
theorem und_zero (T : List NodeT) (v : Nat) : Und T 0 v := List.nil_prefix
theorem und_par {T : List NodeT} (h : Par T) {v : Nat} (h0 : 0 < v) (hv : v < T.length) : Und T (parN T v) v := by
  unfold Und; rw [pc_succ h h0 hv]; exact List.prefix_append _ _
theorem und_trans {T : List NodeT} {u v x : Nat} (h : Und T u v) (k : Und T v x) : Und T u x := List.IsPrefix.trans h k
theorem und_step {T : List NodeT} (h : Par T) {u v : Nat} (hu : u < T.length) (h0 : 0 < v) (hv : v < T.length) : Und T u v ↔ u = v ∨ Und T u (parN T v) := by
  constructor
  · intro k
    unfold Und at k
    rw [pc_succ h h0 hv, List.prefix_concat_iff] at k
    rcases k with k | k
    · exact .inl (pc_inj h hu hv (by rw [k, pc_succ h h0 hv]))
    · exact .inr k
  · rintro (rfl | k)
    · exact und_refl _ _
    · exact und_trans k (und_par h h0 hv)
theorem und_le {T : List NodeT} (h : Par T) {u : Nat} (hu : u < T.length) : ∀ (n v : Nat), v ≤ n → v < T.length → Und T u v → u ≤ v := by
  intro n
  induction n with
  | zero =>
    intro v hv hl k
    have : v = 0 := by omega
    subst this
    by_cases h0 : u = 0
    · omega
    · unfold Und at k
      rw [pc_zero, pc_succ h (by omega) hu] at k
      have := k.length_le; simp at this
  | succ n ih =>
    intro v hv hl k
    by_cases h0 : v = 0
    · subst h0; exact ih 0 (by omega) hl k
    · rcases (und_step h hu (by omega) hl).1 k with rfl | k
      · exact Nat.le_refl _
      · have hp := parN_lt h (by omega : 0 < v) hl
        have := ih (parN T v) (by omega) (by omega) k
        omega
/-- The child of u on the way to v. -/
theorem und_kid {T : List NodeT} (h : Par T) {u : Nat} (hu : u < T.length) : ∀ (n v : Nat), v ≤ n → v < T.length → Und T u v → u ≠ v → ∃ c, 0 < c ∧ c < T.length ∧ parN T c = u ∧ Und T c v ∧ c ≤ v := by
  intro n
  induction n with
  | zero =>
    intro v hv hl k hne
    have := und_le h hu v v (Nat.le_refl _) hl k
    omega
  | succ n ih =>
    intro v hv hl k hne
    have h0 : 0 < v := by have := und_le h hu v v (Nat.le_refl _) hl k; omega
    have hp := parN_lt h h0 hl
    rcases (und_step h hu h0 hl).1 k with e | k
    · exact absurd e hne
    · by_cases e : u = parN T v
      · exact ⟨v, h0, hl, e.symm, und_refl _ _, Nat.le_refl _⟩
      · obtain ⟨c, c0, c1, c2, c3, c4⟩ := ih (parN T v) (by omega) (by omega) k e
        exact ⟨c, c0, c1, c2, und_trans c3 (und_par h h0 hl), by omega⟩
theorem pc_below {T : List NodeT} (h : Par T) {c v : Nat} (c0 : 0 < c) (hc : c < T.length) (k : Und T c v) : ∃ q, pc T v = pc T (parN T c) ++ (nameOf T c, c) :: q := by
  obtain ⟨q, hq⟩ := k
  rw [pc_succ h c0 hc] at hq
  exact ⟨q, by rw [← hq]; simp⟩
end Go.Proofs.YtofhcgbihonckaaGreatDoor

open Go
namespace Go.Proofs.YtofhcgbihonckaaGreatDoor

def posK (T : List NodeT) (i : Nat) (l : List Nat) : Nat := (l.takeWhile fun c => !ltS (nameOf T i) (nameOf T c)).length
def insK (T : List NodeT) (i : Nat) (l : List Nat) : List Nat := l.take (posK T i l) ++ i :: l.drop (posK T i l)
theorem insK_nil (T : List NodeT) (i : Nat) : insK T i [] = [i] := rfl
theorem insK_cons (T : List NodeT) (i c : Nat) (l : List Nat) : insK T i (c :: l) = if ltS (nameOf T i) (nameOf T c) = true then i :: c :: l else c :: insK T i l := by
  unfold insK posK
  by_cases h : ltS (nameOf T i) (nameOf T c) = true
  · simp [h]
  · simp [h]
def kidsF (T : List NodeT) (u : Nat) : Nat → List Nat
  | 0 => []
  | k + 1 => if k ≠ 0 ∧ parOf T k = (u : Int) then insK T k (kidsF T u k) else kidsF T u k
def kidsS (T : List NodeT) (u : Nat) : List Nat := kidsF T u T.length
def cmpN (T : List NodeT) (i : Nat) : Comp := (nameOf T i, i)
theorem insK_mem (T : List NodeT) (i : Nat) : ∀ (l : List Nat) (x : Nat), x ∈ insK T i l ↔ x = i ∨ x ∈ l := by
  intro l
  induction l with
  | nil => intro x; simp [insK_nil]
  | cons c l ih =>
    intro x
    rw [insK_cons]
    split
    · simp
    · simp only [List.mem_cons, ih]
      constructor
      · rintro (h | h | h) <;> simp [h]
      · rintro (h | h | h) <;> simp [h]
theorem insK_len (T : List NodeT) (i : Nat) (l : List Nat) : (insK T i l).length = l.length + 1 := by
  unfold insK; simp [List.length_take, List.length_drop]
  have : posK T i l ≤ l.length := (List.takeWhile_sublist _).length_le
  omega
theorem insK_sorted (T : List NodeT) (i : Nat) : ∀ (l : List Nat), (∀ c ∈ l, c < i) → l.Pairwise (fun a b => ltC (cmpN T a) (cmpN T b)) → (insK T i l).Pairwise (fun a b => ltC (cmpN T a) (cmpN T b)) := by
  intro l
  induction l with
  | nil => intro _ _; rw [insK_nil]; exact List.pairwise_singleton _ _
  | cons c l ih =>
    intro hl hp
    rw [List.pairwise_cons] at hp
    rw [insK_cons]
    split
    · rename_i h
      rw [List.pairwise_cons]
      refine ⟨?_, List.pairwise_cons.2 hp⟩
      intro x hx
      have hic : ltC (cmpN T i) (cmpN T c) := .inl h
      rcases List.mem_cons.1 hx with rfl | hx
      · exact hic
      · exact ltC_trans hic (hp.1 x hx)
    · rename_i h
      rw [List.pairwise_cons]
      refine ⟨?_, ih (fun x hx => hl x (by simp [hx])) hp.2⟩
      intro x hx
      rcases (insK_mem T i l x).1 hx with rfl | hx
      · have hlt := hl c (by simp)
        rcases ltS_total (Bool.eq_false_iff.2 h) with e | e
        · exact .inr ⟨e.symm, hlt⟩
        · exact .inl e
      · exact hp.1 x hx
theorem kidsF_spec (T : List NodeT) (u : Nat) : ∀ k, (∀ c, c ∈ kidsF T u k ↔ c < k ∧ 0 < c ∧ parOf T c = (u : Int)) ∧ (kidsF T u k).Pairwise (fun a b => ltC (cmpN T a) (cmpN T b)) := by
  intro k
  induction k with
  | zero => exact ⟨fun c => by simp [kidsF], List.Pairwise.nil⟩
  | succ k ih =>
    obtain ⟨h1, h2⟩ := ih
    simp only [kidsF]
    split
    · rename_i hk
      refine ⟨fun c => ?_, insK_sorted T k _ (fun c hc => ((h1 c).1 hc).1) h2⟩
      rw [insK_mem, h1]
      constructor
      · rintro (rfl | ⟨a, b, d⟩)
        · exact ⟨by omega, by omega, hk.2⟩
        · exact ⟨by omega, b, d⟩
      · rintro ⟨a, b, d⟩
        by_cases e : c = k
        · exact .inl e
        · exact .inr ⟨by omega, b, d⟩
    · rename_i hk
      refine ⟨fun c => ?_, h2⟩
      rw [h1]
      constructor
      · rintro ⟨a, b, d⟩; exact ⟨by omega, b, d⟩
      · rintro ⟨a, b, d⟩
        refine ⟨?_, b, d⟩
        by_cases e : c = k
        · subst e; exact absurd ⟨by omega, d⟩ hk
        · omega
theorem kidsF_len (T : List NodeT) (u : Nat) : ∀ k, (kidsF T u k).length ≤ k := by
  intro k
  induction k with
  | zero => simp [kidsF]
  | succ k ih =>
    simp only [kidsF]
    split
    · rw [insK_len]; omega
    · omega
theorem kids_mem (T : List NodeT) (u c : Nat) : c ∈ kidsS T u ↔ c < T.length ∧ 0 < c ∧ parOf T c = (u : Int) := (kidsF_spec T u T.length).1 c
def walkR (T : List NodeT) : Nat → Nat → List Nat
  | 0, u => [u]
  | f + 1, u => u :: (kidsS T u).flatMap (walkR T f)
def ltI (T : List NodeT) (a b : Nat) : Prop := ltP (pc T a) (pc T b)
theorem kid_par {T : List NodeT} {u c : Nat} (hc : parOf T c = (u : Int)) : parN T c = u := by unfold parN; rw [hc]; simp
theorem walkR_spec {T : List NodeT} (h : Par T) : ∀ (f u : Nat), u < T.length → T.length ≤ u + f → (∀ v, v ∈ walkR T f u ↔ v < T.length ∧ Und T u v) ∧ (walkR T f u).Pairwise (ltI T) := by
  intro f
  induction f with
  | zero => intro u hu hf; omega
  | succ f ih =>
    intro u hu hf
    have hk : ∀ c, c ∈ kidsS T u → c < T.length ∧ 0 < c ∧ parN T c = u ∧ u < c := by
      intro c hc
      obtain ⟨h1, h2, h3⟩ := (kids_mem T u c).1 hc
      have := (h c h2 h1).2
      exact ⟨h1, h2, kid_par h3, by omega⟩
    have hi := fun c hc => ih c (hk c hc).1 (by have := (hk c hc).2.2.2; omega)
    have hmem : ∀ v, v ∈ walkR T (f + 1) u ↔ v < T.length ∧ Und T u v := by
      intro v
      simp only [walkR, List.mem_cons, List.mem_flatMap]
      constructor
      · rintro (rfl | ⟨c, hc, hv⟩)
        · exact ⟨hu, und_refl _ _⟩
        · obtain ⟨a, b⟩ := ((hi c hc).1 v).1 hv
          obtain ⟨c1, c2, c3, c4⟩ := hk c hc
          exact ⟨a, und_trans (by rw [← c3]; exact und_par h c2 c1) b⟩
      · rintro ⟨hv, hu2⟩
        by_cases e : u = v
        · exact .inl e.symm
        · obtain ⟨c, c0, c1, c2, c3, c4⟩ := und_kid h hu v v (Nat.le_refl _) hv hu2 e
          have hc : c ∈ kidsS T u := (kids_mem T u c).2 ⟨c1, c0, by have := (parN_lt h c0 c1).2; omega⟩
          exact .inr ⟨c, hc, ((hi c hc).1 v).2 ⟨hv, c3⟩⟩
    refine ⟨hmem, ?_⟩
    simp only [walkR]
    rw [List.pairwise_cons]
    refine ⟨?_, ?_⟩
    · intro v hv
      obtain ⟨c, hc, hv⟩ := List.mem_flatMap.1 hv
      obtain ⟨c1, c2, c3, c4⟩ := hk c hc
      obtain ⟨q, hq⟩ := pc_below h c2 c1 (((hi c hc).1 v).1 hv).2
      unfold ltI
      rw [hq, c3]; exact ltP_longer _ _ _
    · rw [List.pairwise_flatMap]
      refine ⟨fun c hc => (hi c hc).2, ?_⟩
      have hp : (kidsS T u).Pairwise (fun a b => a ∈ kidsS T u ∧ b ∈ kidsS T u ∧ ltC (cmpN T a) (cmpN T b)) := by
        have h2 := (kidsF_spec T u T.length).2
        exact List.Pairwise.and_mem.1 h2
      refine hp.imp ?_
      rintro a b ⟨ha, hb, hab⟩ x hx y hy
      obtain ⟨a1, a2, a3, a4⟩ := hk a ha
      obtain ⟨b1, b2, b3, b4⟩ := hk b hb
      obtain ⟨q, hq⟩ := pc_below h a2 a1 (((hi a ha).1 x).1 hx).2
      obtain ⟨r, hr⟩ := pc_below h b2 b1 (((hi b hb).1 y).1 hy).2
      unfold ltI
      rw [hq, hr, a3, b3]
      exact ltP_split _ _ _ hab
theorem ltI_nodup {T : List NodeT} {l : List Nat} (h : l.Pairwise (ltI T)) : l.Nodup := h.imp (fun {a b} hab e => by subst e; exact ltP_irrefl _ hab)
theorem walkR_len {T : List NodeT} (h : Par T) (f u : Nat) (hu : u < T.length) (hf : T.length ≤ u + f) : (walkR T f u).length ≤ T.length := by
  obtain ⟨h1, h2⟩ := walkR_spec h f u hu hf
  have := (ltI_nodup h2).length_le_of_subset (l₂ := List.range T.length) (fun v hv => List.mem_range.2 ((h1 v).1 hv).1)
  simpa using this
/-- The whole walk. -/
def ordT (T : List NodeT) : List Nat := walkR T T.length 0
theorem ordT_spec {T : List NodeT} (h : Par T) (h0 : 0 < T.length) : (∀ v, v ∈ ordT T ↔ v < T.length) ∧ (ordT T).Pairwise (ltI T) := by
  obtain ⟨h1, h2⟩ := walkR_spec h T.length 0 h0 (by omega)
  exact ⟨fun v => by rw [show ordT T = walkR T T.length 0 from rfl, h1]; exact ⟨fun k => k.1, fun k => ⟨k, und_zero T v⟩⟩, h2⟩
theorem perm_of_nodup {l1 l2 : List Nat} (h1 : l1.Nodup) (h2 : l2.Nodup) (h : ∀ v, v ∈ l1 ↔ v ∈ l2) : l1.Perm l2 := (List.perm_ext_iff_of_nodup h1 h2).2 h
theorem ordT_perm {T : List NodeT} (h : Par T) (h0 : 0 < T.length) : (ordT T).Perm (List.range T.length) := by
  obtain ⟨h1, h2⟩ := ordT_spec h h0
  exact perm_of_nodup (ltI_nodup h2) List.nodup_range (fun v => by rw [h1, List.mem_range])
theorem ordT_len {T : List NodeT} (h : Par T) (h0 : 0 < T.length) : (ordT T).length = T.length := by
  have := (ordT_perm h h0).length_eq; simpa using this
/-- What is in the order of the paths and holds each node once is the walk. -/
theorem ordT_unique {T : List NodeT} (h : Par T) (h0 : 0 < T.length) {l : List Nat} (hl : l.Pairwise (ltI T)) (hm : ∀ v, v ∈ l ↔ v < T.length) : l = ordT T := by
  obtain ⟨h1, h2⟩ := ordT_spec h h0
  exact List.Perm.eq_of_pairwise (le := ltI T) (fun a b _ _ hab hba => (ltP_asymm hab hba).elim) hl h2 (perm_of_nodup (ltI_nodup hl) (ltI_nodup h2) (fun v => by rw [hm, h1]))
theorem ordT_range {T : List NodeT} (h : Par T) (h0 : 0 < T.length) : ordT T = List.range T.length ↔ (List.range T.length).Pairwise (ltI T) := by
  constructor
  · intro e; rw [← e]; exact (ordT_spec h h0).2
  · intro k; exact (ordT_unique h h0 k (fun v => List.mem_range)).symm
end Go.Proofs.YtofhcgbihonckaaGreatDoor

open Go
namespace Go.Proofs.YtofhcgbihonckaaGreatDoor

theorem ltS_empty (x : ByteArray) : ltS x ByteArray.empty = false := by
  unfold ltS
  have : ByteArray.empty.toList = [] := by rw [ByteArray.toList_eq]; rfl
  rw [this]
  cases x.toList <;> rfl
theorem ltS_asymm {a b : ByteArray} (h : ltS a b = true) : ltS b a = false := by
  cases k : ltS b a with
  | false => rfl
  | true => have := ltS_trans h k; rw [ltS_irrefl] at this; cases this
def lastF (T : List NodeT) (u : Nat) : Nat → ByteArray
  | 0 => ByteArray.empty
  | k + 1 => if k ≠ 0 ∧ parOf T k = (u : Int) then nameOf T k else lastF T u k
theorem lastF_cases (T : List NodeT) (u : Nat) : ∀ k, lastF T u k = ByteArray.empty ∨ ∃ c, c < k ∧ 0 < c ∧ parOf T c = (u : Int) ∧ lastF T u k = nameOf T c := by
  intro k
  induction k with
  | zero => exact .inl rfl
  | succ k ih =>
    simp only [lastF]
    split
    · rename_i h
      exact .inr ⟨k, by omega, by omega, h.2, rfl⟩
    · rcases ih with e | ⟨c, h1, h2, h3, h4⟩
      · exact .inl e
      · exact .inr ⟨c, by omega, h2, h3, h4⟩
theorem lastF_kid (T : List NodeT) (u c : Nat) (c0 : 0 < c) (hc : parOf T c = (u : Int)) : ∀ k, c < k → (∀ d, c < d → d < k → parOf T d ≠ (u : Int)) → lastF T u k = nameOf T c := by
  intro k
  induction k with
  | zero => intro h; omega
  | succ k ih =>
    intro h hd
    simp only [lastF]
    by_cases e : c = k
    · subst e; rw [if_pos ⟨by omega, hc⟩]
    · rw [if_neg (fun x => hd k (by omega) (by omega) x.2)]
      exact ih (by omega) (fun d h1 h2 => hd d h1 (by omega))
def okAt (T : List NodeT) (i : Nat) : Prop := Und T (parN T i) (i - 1) ∧ ltS (nameOf T i) (lastF T (parN T i) i) = false
theorem upT3_spec {T : List NodeT} (h : Par T) (hr : parOf T 0 = -1) {p : Nat} (hp : p < T.length) : ∀ (f v : Nat), v < T.length → v + 1 ≤ f → (Und T p v → upT3 T p f v = p) ∧ (¬ Und T p v → upT3 T p f v = -1) := by
  intro f
  induction f with
  | zero => intro v _ hf; omega
  | succ f ih =>
    intro v hv hf
    simp only [upT3]
    by_cases e : v = p
    · subst e
      rw [if_pos (.inr rfl)]
      exact ⟨fun _ => rfl, fun k => absurd (und_refl _ _) k⟩
    · rw [if_neg (by omega), Int.toNat_natCast]
      by_cases h0 : v = 0
      · subst h0
        rw [hr]
        have hn : ¬ Und T p 0 := fun k => by have := und_le h hp 0 0 (Nat.le_refl _) hv k; omega
        have hu : upT3 T p f (-1) = -1 := by cases f with
          | zero => rfl
          | succ f => simp only [upT3]; rw [if_pos (.inl (by omega))]
        exact ⟨fun k => absurd k hn, fun _ => hu⟩
      · have hpl := parN_lt h (by omega : 0 < v) hv
        have := ih (parN T v) (by omega) (by omega)
        rw [hpl.2] at this
        rw [und_step h hp (by omega) hv]
        exact ⟨fun k => this.1 (k.resolve_left (fun x => e x.symm)), fun k => this.2 (fun x => k (.inr x))⟩
theorem walkedF_iff {T : List NodeT} (h : Par T) (hr : parOf T 0 = -1) : ∀ (k i : Nat) (last : List ByteArray), i + k = T.length → last.length = T.length → (∀ u, u < T.length → last.getD u ByteArray.empty = lastF T u i) →
    (walkedF T i last (T.drop i) = true ↔ (∀ j, i ≤ j → j < T.length → ascT (propsOf T j) = true) ∧ ∀ j, i ≤ j → 0 < j → j < T.length → okAt T j) := by
  intro k
  induction k with
  | zero =>
    intro i last hi _ _
    rw [List.drop_eq_nil_of_le (by omega)]
    simp only [walkedF, true_iff]
    exact ⟨fun j h1 h2 => by omega, fun j h1 _ h2 => by omega⟩
  | succ k ih =>
    intro i last hi hl hinv
    have hlt : i < T.length := by omega
    rw [List.drop_eq_getElem_cons hlt]
    simp only [walkedF]
    rw [Bool.and_eq_true, ← propsOf_at hlt]
    by_cases h0 : i = 0
    · subst h0
      rw [if_pos rfl, ih 1 last (by omega) hl (fun u hu => by rw [hinv u hu]; rfl)]
      constructor
      · rintro ⟨a, b, c⟩
        exact ⟨fun j h1 h2 => by
          by_cases e : j = 0
          · subst e; exact a
          · exact b j (by omega) h2, fun j _ h1 h2 => c j (by omega) h1 h2⟩
      · rintro ⟨a, b⟩
        exact ⟨a 0 (by omega) hlt, fun j h1 h2 => a j (by omega) h2, fun j _ h1 h2 => b j (by omega) h1 h2⟩
    · rw [if_neg h0]
      have hpl := parN_lt h (by omega : 0 < i) hlt
      have hup := upT3_spec h hr (p := parN T i) (by omega) (i + 1) (i - 1) (by omega) (by omega)
      rw [hpl.2, parOf_at hlt, show ((i - 1 : Nat) : Int) = (i : Int) - 1 from by omega] at hup
      have hok : (decide (0 ≤ upT3 T T[i].parent (i + 1) ((i : Int) - 1)) && !ltS T[i].name (last.getD (upT3 T T[i].parent (i + 1) ((i : Int) - 1)).toNat ByteArray.empty)) = true ↔ okAt T i := by
        unfold okAt
        by_cases hu : Und T (parN T i) (i - 1)
        · rw [hup.1 hu]
          rw [show ((T[i].parent).toNat) = parN T i from by unfold parN; rw [parOf_at hlt], hinv _ (by omega), ← nameOf_at hlt]
          have : (0 : Int) ≤ T[i].parent := by rw [← parOf_at hlt]; omega
          simp [this, hu]
        · rw [hup.2 hu]
          simp [hu]
      rw [Bool.and_eq_true, hok]
      constructor
      · rintro ⟨a, b, c⟩
        have hu := hup.1 b.1
        rw [hu, show ((T[i].parent).toNat) = parN T i from by unfold parN; rw [parOf_at hlt]] at c
        rw [ih (i + 1) _ (by omega) (by simpa using hl) (by
          intro u hu
          simp only [lastF]
          rw [List.getD_eq_getElem?_getD, List.getElem?_set]
          by_cases e : parN T i = u
          · subst e
            rw [if_pos rfl, if_pos (by omega), if_pos ⟨h0, hpl.2.symm⟩, nameOf_at hlt]; rfl
          · rw [if_neg e, if_neg (fun x => e (by have := x.2; omega)), ← hinv u hu, List.getD_eq_getElem?_getD])] at c
        exact ⟨fun j h1 h2 => by
          by_cases e : j = i
          · subst e; exact a
          · exact c.1 j (by omega) h2, fun j h1 h2 h3 => by
          by_cases e : j = i
          · subst e; exact b
          · exact c.2 j (by omega) h2 h3⟩
      · rintro ⟨a, b⟩
        have bi := b i (Nat.le_refl _) (by omega) hlt
        have hu := hup.1 bi.1
        rw [hu, show ((T[i].parent).toNat) = parN T i from by unfold parN; rw [parOf_at hlt]]
        rw [ih (i + 1) _ (by omega) (by simpa using hl) (by
          intro u hu
          simp only [lastF]
          rw [List.getD_eq_getElem?_getD, List.getElem?_set]
          by_cases e : parN T i = u
          · subst e
            rw [if_pos rfl, if_pos (by omega), if_pos ⟨h0, hpl.2.symm⟩, nameOf_at hlt]; rfl
          · rw [if_neg e, if_neg (fun x => e (by have := x.2; omega)), ← hinv u hu, List.getD_eq_getElem?_getD])]
        exact ⟨a i (Nat.le_refl _) hlt, bi, fun j h1 h2 => a j (by omega) h2, fun j h1 h2 h3 => b j (by omega) h2 h3⟩
/-- Paths ascend from each node to the next. -/
def Asc (T : List NodeT) : Prop := ∀ i, 0 < i → i < T.length → ltI T (i - 1) i
theorem asc_all {T : List NodeT} (h : Asc T) : ∀ (j i : Nat), i < j → j < T.length → ltI T i j := by
  intro j
  induction j with
  | zero => intro i h; omega
  | succ j ih =>
    intro i hi hj
    have hs := h (j + 1) (by omega) hj
    rw [Nat.add_sub_cancel] at hs
    by_cases e : i = j
    · subst e; exact hs
    · exact ltP_trans (ih i (by omega) (by omega)) hs
theorem asc_range {T : List NodeT} : (List.range T.length).Pairwise (ltI T) ↔ Asc T := by
  rw [List.pairwise_iff_getElem]
  constructor
  · intro h i h0 hi
    have := h (i - 1) i (by simp; omega) (by simpa using hi) (by omega)
    simpa using this
  · intro h i j hi hj hij
    simp only [List.getElem_range]
    exact asc_all h j i hij (by simpa using hj)
theorem ok_asc {T : List NodeT} (h : Par T) (hok : ∀ i, 0 < i → i < T.length → okAt T i) : ∀ (n i : Nat), i ≤ n → 0 < i → i < T.length → ltI T (i - 1) i := by
  intro n
  induction n with
  | zero => intro i h1 h2; omega
  | succ n ih =>
    intro i hn h0 hi
    by_cases hin : i ≤ n
    · exact ih i hin h0 hi
    · have hall : ∀ (b a : Nat), a < b → b < i → ltI T a b := by
        intro b
        induction b with
        | zero => intro a h; omega
        | succ b ihb =>
          intro a hab hbi
          have hs := ih (b + 1) (by omega) (by omega) (by omega)
          rw [Nat.add_sub_cancel] at hs
          by_cases e : a = b
          · subst e; exact hs
          · exact ltP_trans (ihb a (by omega) (by omega)) hs
      obtain ⟨hu, hn2⟩ := hok i h0 hi
      have hpl := parN_lt h h0 hi
      unfold ltI
      rw [pc_succ h h0 hi]
      by_cases e : parN T i = i - 1
      · rw [e]; exact ltP_longer _ _ _
      · obtain ⟨c, c0, c1, c2, c3, c4⟩ := und_kid h (by omega) (i - 1) (i - 1) (Nat.le_refl _) (by omega) hu e
        have hcp := (parN_lt h c0 c1).2
        rw [c2] at hcp
        obtain ⟨q, hq⟩ := pc_below h c0 c1 c3
        rw [c2] at hq
        have hlast : lastF T (parN T i) i = nameOf T c := lastF_kid T _ c c0 hcp.symm i (by omega) (by
          intro d hd1 hd2 hd3
          have hdp := parN_lt h (by omega : 0 < d) (by omega)
          have hde : parN T d = parN T i := by have := hdp.2; omega
          have hcd := hall d c hd1 hd2
          unfold ltI at hcd
          rw [pc_succ h c0 c1, pc_succ h (by omega : 0 < d) (by omega), c2, hde] at hcd
          have hlt := ltP_last _ hcd
          have hback : ltP (pc T (i - 1)) (pc T d) := by
            rw [hq, pc_succ h (by omega : 0 < d) (by omega), hde]; exact ltP_split _ _ _ hlt
          by_cases e2 : d = i - 1
          · rw [e2] at hback; exact ltP_irrefl _ hback
          · exact ltP_asymm hback (hall (i - 1) d (by omega) (by omega)))
        rw [hlast] at hn2
        rw [hq]
        refine ltP_split _ _ _ ?_
        rcases ltS_total hn2 with e2 | e2
        · exact .inr ⟨e2.symm, by show c < i; omega⟩
        · exact .inl e2
theorem asc_ok {T : List NodeT} (h : Par T) (ha : Asc T) (i : Nat) (h0 : 0 < i) (hi : i < T.length) : okAt T i := by
  have hpl := parN_lt h h0 hi
  have hstep := ha i h0 hi
  refine ⟨?_, ?_⟩
  · by_cases e : parN T i = i - 1
    · rw [e]; exact und_refl _ _
    · have h1 : ltP (pc T (parN T i)) (pc T (i - 1)) := asc_all ha (i - 1) (parN T i) (by omega) (by omega)
      unfold ltI at hstep
      rw [pc_succ h h0 hi] at hstep
      obtain ⟨y, q, hq, _⟩ := ltP_between _ _ _ h1 hstep
      exact ⟨y :: q, hq.symm⟩
  · rcases lastF_cases T (parN T i) i with e | ⟨c, h1, h2, h3, h4⟩
    · rw [e]; exact ltS_empty _
    · rw [h4]
      have hc := asc_all ha i c h1 hi
      unfold ltI at hc
      rw [pc_succ h h2 (by omega), pc_succ h h0 hi, kid_par h3] at hc
      rcases ltP_last _ hc with k | ⟨k, _⟩
      · exact ltS_asymm k
      · have k : nameOf T c = nameOf T i := k
        rw [k]; exact ltS_irrefl _
theorem walked_iff {T : List NodeT} (h : Par T) (hr : parOf T 0 = -1) : walkedT T = true ↔ (∀ j, j < T.length → ascT (propsOf T j) = true) ∧ Asc T := by
  unfold walkedT
  have := walkedF_iff h hr T.length 0 (List.replicate T.length ByteArray.empty) (by omega) (by simp) (by
    intro u hu
    simp [lastF, List.getD_eq_getElem?_getD, hu])
  rw [List.drop_zero] at this
  rw [this]
  constructor
  · rintro ⟨a, b⟩
    exact ⟨fun j hj => a j (by omega) hj, fun i h0 hi => ok_asc h (fun j hj0 hj => b j (by omega) hj0 hj) i i (Nat.le_refl _) h0 hi⟩
  · rintro ⟨a, b⟩
    exact ⟨fun j _ hj => a j hj, fun j _ h0 hj => asc_ok h b j h0 hj⟩
end Go.Proofs.YtofhcgbihonckaaGreatDoor

open Go
namespace Go.Proofs.YtofhcgbihonckaaGreatDoor

theorem named_root {T : List NodeT} (h : namedT T = true) (h0 : 0 < T.length) : parOf T 0 = -1 := by
  rw [parOf_at h0]; exact (named_par h 0 h0).1 rfl
theorem walked_ord {T : List NodeT} (h : namedT T = true) (h0 : 0 < T.length) : walkedT T = (decide (ordT T = List.range T.length) && T.all fun n => ascT n.props) := by
  have hp := par_of_named h
  rw [Bool.eq_iff_iff, walked_iff hp (named_root h h0), Bool.and_eq_true, decide_eq_true_iff, ordT_range hp h0, asc_range, List.all_eq_true]
  constructor
  · rintro ⟨a, b⟩
    refine ⟨b, fun n hn => ?_⟩
    obtain ⟨k, hk, rfl⟩ := List.mem_iff_getElem.1 hn
    have := a k hk
    rwa [propsOf_at hk] at this
  · rintro ⟨a, b⟩
    exact ⟨fun j hj => by rw [propsOf_at hj]; exact b _ (List.getElem_mem hj), a⟩
/-- Is there a node before k, other than the root, with the name and the parent of i? -/
def dupF (T : List NodeT) (i : Nat) : Nat → Bool
  | 0 => false
  | k + 1 => dupF T i k || (decide (0 < k) && decide (parOf T k = parOf T i) && eqS (nameOf T k) (nameOf T i))
theorem dupF_iff (T : List NodeT) (i : Nat) : ∀ k, dupF T i k = true ↔ ∃ c, 0 < c ∧ c < k ∧ parOf T c = parOf T i ∧ nameOf T c = nameOf T i := by
  intro k
  induction k with
  | zero => simp [dupF]
  | succ k ih =>
    simp only [dupF, Bool.or_eq_true, ih, Bool.and_eq_true, decide_eq_true_iff, eqS_iff]
    constructor
    · rintro (⟨c, h1, h2, h3⟩ | ⟨⟨h1, h2⟩, h3⟩)
      · exact ⟨c, h1, by omega, h3⟩
      · exact ⟨k, h1, by omega, h2, h3⟩
    · rintro ⟨c, h1, h2, h3, h4⟩
      by_cases e : c = k
      · subst e; exact .inr ⟨⟨h1, h3⟩, h4⟩
      · exact .inl ⟨c, h1, by omega, h3, h4⟩
def dupAny (T : List NodeT) : Bool := (List.range T.length).any fun i => dupF T i i
theorem twin_step {T : List NodeT} (h : namedT T = true) {i : Nat} (hi : i < T.length) :
    (decide (0 < i) && ((T.take i).map fun n => (n.name, n.parent)).any (fun x => eqS x.1 T[i].name && decide (x.2 = T[i].parent))) = dupF T i i := by
  rw [Bool.eq_iff_iff, dupF_iff, Bool.and_eq_true, decide_eq_true_iff, List.any_eq_true]
  constructor
  · rintro ⟨h0, x, hx, hx2⟩
    obtain ⟨n, hn, rfl⟩ := List.mem_map.1 hx
    obtain ⟨c, hc, rfl⟩ := List.mem_iff_getElem.1 hn
    have hci : c < i := by simp at hc; omega
    have hcl : c < T.length := by omega
    rw [List.getElem_take] at hx2
    rw [Bool.and_eq_true, eqS_iff, decide_eq_true_iff] at hx2
    refine ⟨c, ?_, hci, by rw [parOf_at hcl, parOf_at hi]; exact hx2.2, by rw [nameOf_at hcl, nameOf_at hi]; exact hx2.1⟩
    by_cases e : c = 0
    · subst e
      have h1 := (named_par h 0 hcl).1 rfl
      have h2 := (named_par h i hi).2 h0
      have := hx2.2; omega
    · omega
  · rintro ⟨c, h1, h2, h3, h4⟩
    have hcl : c < T.length := by omega
    refine ⟨by omega, (T[c].name, T[c].parent), List.mem_map.2 ⟨T[c], ?_, rfl⟩, ?_⟩
    · exact List.mem_iff_getElem.2 ⟨c, by simp; omega, by simp⟩
    · rw [Bool.and_eq_true, eqS_iff, decide_eq_true_iff]
      rw [parOf_at hcl, parOf_at hi] at h3
      rw [nameOf_at hcl, nameOf_at hi] at h4
      exact ⟨h4, h3⟩
theorem twinF_iff {T : List NodeT} (h : namedT T = true) : ∀ (k i : Nat), i + k = T.length → twinF i ((T.take i).map fun n => (n.name, n.parent)) (T.drop i) = (List.range' i k).any fun j => dupF T j j := by
  intro k
  induction k with
  | zero => intro i hi; rw [List.drop_eq_nil_of_le (by omega)]; rfl
  | succ k ih =>
    intro i hi
    have hlt : i < T.length := by omega
    rw [List.drop_eq_getElem_cons hlt, List.range'_succ]
    simp only [twinF, List.any_cons]
    rw [twin_step h hlt, ← ih (i + 1) (by omega)]
    rw [List.take_succ_eq_append_getElem hlt, List.map_append]
    rfl
theorem twin_dup {T : List NodeT} (h : namedT T = true) : twinT T = dupAny T := by
  unfold twinT dupAny
  have := twinF_iff h T.length 0 (by omega)
  rw [List.drop_zero] at this
  rw [List.range_eq_range', ← this]
  rfl
end Go.Proofs.YtofhcgbihonckaaGreatDoor

open Go
namespace Go.Proofs.YtofhcgbihonckaaGreatDoor

def segT (c : Comp) : List UInt8 := 47 :: c.1.data.toList
def flatP (p : List Comp) : List UInt8 := p.flatMap segT
def pathS (T : List NodeT) (k : Nat) : ByteArray := if k = 0 then ⟨#[47]⟩ else ⟨(flatP (pc T k)).toArray⟩
theorem flatP_snoc (p : List Comp) (c : Comp) : flatP (p ++ [c]) = flatP p ++ (47 :: c.1.data.toList) := by simp [flatP, segT]
theorem name_size {T : List NodeT} (h : namedT T = true) (k : Nat) (hk : k < T.length) : T[k].name.size ≤ 31 := by
  have h1 := (named_at T 0 h k hk).1
  rw [Nat.zero_add] at h1
  unfold headB at h1
  by_cases h0 : k = 0
  · subst h0
    rw [if_pos rfl, Bool.and_eq_true] at h1
    have := (eqS_iff _ _).1 h1.2
    rw [this]; decide
  · rw [if_neg h0, Bool.and_eq_true] at h1
    have := h1.2
    unfold nameT at this
    rw [Bool.and_eq_true, Bool.and_eq_true, decide_eq_true_iff] at this
    have := this.1.1.2; simpa using this
theorem flatP_len {T : List NodeT} (h : namedT T = true) : ∀ (n k : Nat), k ≤ n → k < T.length → (flatP (pc T k)).length ≤ 32 * k := by
  intro n
  induction n with
  | zero => intro k hk _; have : k = 0 := by omega
            subst this; simp [pc_zero, flatP]
  | succ n ih =>
    intro k hk hl
    by_cases h0 : k = 0
    · subst h0; simp [pc_zero, flatP]
    · have hp := parN_lt (par_of_named h) (by omega : 0 < k) hl
      rw [pc_succ (par_of_named h) (by omega) hl, flatP_snoc, List.length_append]
      have h1 := ih (parN T k) (by omega) (by omega)
      have h2 := name_size h k hl
      rw [nameOf_at hl]
      simp; omega
def isFound (T : List NodeT) (s : ByteArray) (i : Nat) : Bool := eqS (pathS T i) s
def findT (T : List NodeT) (s : ByteArray) : Int := match (List.range T.length).find? (isFound T s) with
  | some i => i
  | none => -1
theorem findT_yes {T : List NodeT} {s : ByteArray} {i : Nat} (hi : i < T.length) (h : eqS (pathS T i) s = true) (hn : ∀ q : Nat, q < i → eqS (pathS T q) s = false) : findT T s = i := by
  unfold findT
  have : (List.range T.length).find? (isFound T s) = some i := by
    rw [List.find?_range_eq_some]
    exact ⟨h, List.mem_range.2 hi, fun j hj => by show (!isFound T s j) = true; unfold isFound; rw [hn j hj]; rfl⟩
  rw [this]
theorem findT_no {T : List NodeT} {s : ByteArray} (hn : ∀ q : Nat, q < T.length → eqS (pathS T q) s = false) : findT T s = -1 := by
  unfold findT
  have : (List.range T.length).find? (isFound T s) = none := by
    rw [List.find?_range_eq_none]
    intro j hj; show (!isFound T s j) = true; unfold isFound; rw [hn j hj]; rfl
  rw [this]
theorem findT_bd (T : List NodeT) (s : ByteArray) : findT T s = -1 ∨ ∃ i : Nat, i < T.length ∧ findT T s = i ∧ pathS T i = s := by
  unfold findT
  cases h : (List.range T.length).find? (isFound T s) with
  | none => exact .inl rfl
  | some i =>
    have := List.find?_range_eq_some.1 h
    exact .inr ⟨i, List.mem_range.1 this.2.1, rfl, (eqS_iff _ _).1 this.1⟩
def rBeginT (T : List NodeT) (s : ByteArray) : Int × Int := if checkT T ≠ 0 then (0, checkT T) else if 0 ≤ findT T s then (findT T s, 0) else (0, 4)
def pathQ (T : List NodeT) (node : Int) : ByteArray := if checkT T ≠ 0 ∨ node < 0 ∨ T.length ≤ node then ByteArray.empty else pathS T node.toNat
end Go.Proofs.YtofhcgbihonckaaGreatDoor

open Go
namespace Go.Proofs.YtofhcgbihonckaaGreatDoor

def moveT (L : List NodeT) (k : Nat) : NodeT := ⟨if k = 0 then parOf L 0 else (((ordT L).idxOf (parN L k) : Nat) : Int), nameOf L k, propsOf L k⟩
/-- The nodes in the order of the walk, with the parents where they come to lie. -/
def sortedT (L : List NodeT) : List NodeT := (ordT L).map (moveT L)
theorem idx_at {l : List Nat} (h : l.Nodup) (i : Nat) (hi : i < l.length) : l.idxOf l[i] = i := by
  have h1 : l.idxOf l[i] < l.length := List.idxOf_lt_length_iff.2 (List.getElem_mem hi)
  have h2 : l[l.idxOf l[i]] = l[i] := List.getElem_idxOf h1
  exact (List.getElem_inj h).1 h2
theorem idx_get {l : List Nat} {x : Nat} (h : x ∈ l) : ∃ hi : l.idxOf x < l.length, l[l.idxOf x] = x := ⟨List.idxOf_lt_length_iff.2 h, List.getElem_idxOf _⟩
end Go.Proofs.YtofhcgbihonckaaGreatDoor

open Go
namespace Go.Proofs.YtofhcgbihonckaaGreatDoor

def sameKid (k : Int) (s : ByteArray) (n : NodeT) : Bool := decide (n.parent = k) && eqS n.name s
def addT (T : List NodeT) (s name : ByteArray) : List NodeT × Int :=
  if (rBeginT T s).2 ≠ 0 then ([], (rBeginT T s).2) else
    if nameT name.data.toList = false then ([], 1) else
      if T.any (sameKid (rBeginT T s).1 name) = true then ([], 5) else
        if 8 ≤ depF T T.length (rBeginT T s).1 then ([], 2) else
          if 120 ≤ T.length then ([], 3) else (sortedT (T ++ [⟨(rBeginT T s).1, name, []⟩]), 0)
theorem begin_cases (T : List NodeT) (s : ByteArray) : ((rBeginT T s).2 ≠ 0 ∧ (rBeginT T s).1 = 0) ∨ (checkT T = 0 ∧ ∃ k : Nat, k < T.length ∧ rBeginT T s = ((k : Int), 0) ∧ pathS T k = s) := by
  unfold rBeginT
  by_cases h : checkT T = 0
  · rw [if_neg (by simp [h])]
    rcases findT_bd T s with e | ⟨k, hk, e, hp⟩
    · rw [e]; left; simp
    · rw [e]; right; refine ⟨h, k, hk, ?_, hp⟩; rw [if_pos (by omega)]
  · rw [if_pos h]; left; exact ⟨h, rfl⟩
theorem par_more {T : List NodeT} (h : Par T) {n : NodeT} {k : Nat} (hn : n.parent = (k : Int)) (hk : k < T.length) : Par (T ++ [n]) := by
  intro i h0 hi
  have hlen : (T ++ [n]).length = T.length + 1 := by simp
  by_cases e : i < T.length
  · have := h i h0 e
    rw [parOf_at hi, List.getElem_append_left e, ← parOf_at e]; exact this
  · have e2 : i = T.length := by omega
    subst e2
    rw [parOf_at hi, List.getElem_append_right (Nat.le_refl _)]
    simp [hn]; omega
end Go.Proofs.YtofhcgbihonckaaGreatDoor

open Go
namespace Go.Proofs.YtofhcgbihonckaaGreatDoor

def restT (l : List PropT) (x : ByteArray) : Nat := lowT l x + if hasT l x = true then 1 else 0
def putT (l : List PropT) (p : PropT) : List PropT := l.take (lowT l p.name) ++ p :: l.drop (restT l p.name)
theorem low_le (l : List PropT) (x : ByteArray) : lowT l x ≤ l.length := (List.takeWhile_sublist _).length_le
theorem rest_le (l : List PropT) (x : ByteArray) : lowT l x ≤ restT l x ∧ restT l x ≤ l.length ∧ restT l x ≤ lowT l x + 1 := by
  have h1 := low_le l x
  unfold restT
  split
  · rename_i h
    have : lowT l x < l.length := by
      unfold hasT at h
      by_cases e : lowT l x < l.length
      · exact e
      · rw [List.getElem?_eq_none (by omega)] at h; cases h
    omega
  · omega
theorem putT_len (l : List PropT) (p : PropT) : (putT l p).length ≤ l.length + 1 := by
  have h1 := low_le l p.name
  have h2 := rest_le l p.name
  unfold putT; simp; omega
theorem low_step (l : List PropT) (x : ByteArray) (k : Nat) (hk : k < l.length) : (l.drop k).takeWhile (fun p => ltS p.name x) = if ltS l[k].name x = true then l[k] :: (l.drop (k + 1)).takeWhile (fun p => ltS p.name x) else [] := by
  rw [List.drop_eq_getElem_cons hk, List.takeWhile_cons]
theorem has_at {l : List PropT} {x : ByteArray} (hk : lowT l x < l.length) : hasT l x = eqS l[lowT l x].name x := by
  unfold hasT; rw [List.getElem?_eq_getElem hk]
theorem has_none {l : List PropT} {x : ByteArray} (hk : l.length ≤ lowT l x) : hasT l x = false := by
  unfold hasT; rw [List.getElem?_eq_none hk]
def setNode (n : NodeT) (p : PropT) : NodeT := ⟨n.parent, n.name, putT n.props p⟩
def setAt (T : List NodeT) (k : Nat) (p : PropT) : List NodeT := match T[k]? with
  | some n => T.set k (setNode n p)
  | none => T
def setT (T : List NodeT) (s name value : ByteArray) : List NodeT × Int :=
  if (rBeginT T s).2 ≠ 0 then ([], (rBeginT T s).2) else
    if propB name = false then ([], 1) else
      if limitsT (setAt T (rBeginT T s).1.toNat ⟨name, value⟩) = false then ([], 3) else (setAt T (rBeginT T s).1.toNat ⟨name, value⟩, 0)
end Go.Proofs.YtofhcgbihonckaaGreatDoor

open Go
namespace Go.Proofs.YtofhcgbihonckaaGreatDoor

/-- A list of nodes whose parents lie ahead. -/
def Shape (T : List NodeT) : Prop := 0 < T.length ∧ Par T ∧ parOf T 0 = -1
theorem ord_head {L : List NodeT} (h0 : 0 < L.length) : (ordT L)[0]? = some 0 := by
  unfold ordT
  obtain ⟨n, hn⟩ : ∃ n, L.length = n + 1 := ⟨L.length - 1, by omega⟩
  rw [hn]; simp [walkR]
theorem sorted_len {L : List NodeT} (h : Par L) (h0 : 0 < L.length) : (sortedT L).length = L.length := by unfold sortedT; rw [List.length_map]; exact ordT_len h h0
theorem sorted_at {L : List NodeT} (i : Nat) (hi : i < (ordT L).length) : (sortedT L)[i]'(by unfold sortedT; simpa using hi) = moveT L (ordT L)[i] := by simp [sortedT]
theorem ord_zero {L : List NodeT} (h0 : 0 < L.length) (hi : 0 < (ordT L).length) : (ordT L)[0] = 0 := by
  have := ord_head h0
  rw [List.getElem?_eq_getElem hi] at this
  exact Option.some.inj this
theorem ord_par {L : List NodeT} (h : Par L) (h0 : 0 < L.length) {i : Nat} (hi0 : 0 < i) (hi : i < (ordT L).length) : (ordT L)[i] ≠ 0 ∧ (ordT L).idxOf (parN L (ordT L)[i]) < i := by
  obtain ⟨h1, h2⟩ := ordT_spec h h0
  have hnd := ltI_nodup h2
  have hz : (ordT L)[i] ≠ 0 := by
    intro e
    have h3 := ord_zero h0 (show 0 < (ordT L).length by omega)
    have : i = 0 := (List.getElem_inj hnd).1 (by rw [e, h3])
    omega
  refine ⟨hz, ?_⟩
  have hk := (h1 _).1 (List.getElem_mem hi)
  have hpl := parN_lt h (by omega : 0 < (ordT L)[i]) hk
  obtain ⟨hq, hqe⟩ := idx_get ((h1 (parN L (ordT L)[i])).2 (by omega))
  by_cases hlt : (ordT L).idxOf (parN L (ordT L)[i]) < i
  · exact hlt
  · exfalso
    have hne : i ≠ (ordT L).idxOf (parN L (ordT L)[i]) := by
      intro e
      have : (ordT L)[i] = parN L (ordT L)[i] := by
        have h4 : (ordT L)[i]? = (ordT L)[(ordT L).idxOf (parN L (ordT L)[i])]? := by rw [← e]
        rw [List.getElem?_eq_getElem hi, List.getElem?_eq_getElem hq, hqe] at h4
        exact Option.some.inj h4
      omega
    have hp := (List.pairwise_iff_getElem.1 h2) i _ hi hq (by omega)
    rw [hqe] at hp
    unfold ltI at hp
    rw [pc_succ h (by omega) hk] at hp
    exact ltP_asymm hp (ltP_longer _ _ _)
theorem shape_sorted {L : List NodeT} (h : Shape L) : Shape (sortedT L) := by
  obtain ⟨h0, hp, hr⟩ := h
  have hl := sorted_len hp h0
  have hol := ordT_len hp h0
  refine ⟨by omega, ?_, ?_⟩
  · intro i hi0 hi
    have hio : i < (ordT L).length := by omega
    obtain ⟨hz, hlt⟩ := ord_par hp h0 hi0 hio
    rw [parOf_at hi, sorted_at i hio]
    unfold moveT
    simp only
    rw [if_neg hz]
    omega
  · have hi : 0 < (sortedT L).length := by omega
    rw [parOf_at hi, sorted_at 0 (by omega), ord_zero h0 (by omega)]
    show (if (0 : Nat) = 0 then parOf L 0 else (((ordT L).idxOf (parN L 0) : Nat) : Int)) = -1
    rw [if_pos rfl]; exact hr
theorem shape_more {T : List NodeT} (h : Shape T) {n : NodeT} {k : Nat} (hn : n.parent = (k : Int)) (hk : k < T.length) : Shape (T ++ [n]) := by
  refine ⟨by simp, par_more h.2.1 hn hk, ?_⟩
  have h0 := h.1
  have e : parOf (T ++ [n]) 0 = parOf T 0 := by
    rw [parOf_at (by simp), parOf_at h0, List.getElem_append_left h0]
  rw [e]; exact h.2.2
theorem shape_add {T : List NodeT} (h : Shape T) (s name : ByteArray) (he : (addT T s name).2 = 0) : Shape (addT T s name).1 ∧ (addT T s name).1.length = T.length + 1 := by
  unfold addT at he ⊢
  rcases begin_cases T s with ⟨hb, _⟩ | ⟨_, k, hk, hb, _⟩
  · rw [if_pos hb] at he; exact absurd he hb
  · rw [hb] at he ⊢
    rw [if_neg (by simp)] at he ⊢
    split at he
    · simp at he
    · rename_i h1
      rw [if_neg h1]
      split at he
      · simp at he
      · rename_i h2
        rw [if_neg h2]
        split at he
        · simp at he
        · rename_i h3
          rw [if_neg h3]
          split at he
          · simp at he
          · rename_i h4
            rw [if_neg h4]
            have hs := shape_more h (n := ⟨(k : Int), name, []⟩) rfl hk
            exact ⟨shape_sorted hs, by rw [sorted_len hs.2.1 hs.1]; simp⟩
theorem shape_setAt {T : List NodeT} (h : Shape T) (k : Nat) (p : PropT) : Shape (setAt T k p) ∧ (setAt T k p).length = T.length := by
  unfold setAt
  by_cases hk : k < T.length
  · rw [List.getElem?_eq_getElem hk]
    simp only
    have hpo : ∀ i, i < T.length → parOf (T.set k (setNode T[k] p)) i = parOf T i := by
      intro i hi
      rw [parOf_at (by simpa using hi), parOf_at hi]
      by_cases e : k = i
      · subst e; simp [setNode]
      · rw [List.getElem_set_ne e]
    refine ⟨⟨by simpa using h.1, ?_, ?_⟩, by simp⟩
    · intro i h0 hi
      have hi2 : i < T.length := by simpa using hi
      rw [hpo i hi2]; exact h.2.1 i h0 hi2
    · rw [hpo 0 h.1]; exact h.2.2
  · rw [List.getElem?_eq_none (by omega)]
    exact ⟨h, rfl⟩
theorem shape_set {T : List NodeT} (h : Shape T) (s name value : ByteArray) (he : (setT T s name value).2 = 0) : Shape (setT T s name value).1 ∧ (setT T s name value).1.length = T.length := by
  unfold setT at he ⊢
  rcases begin_cases T s with ⟨hb, _⟩ | ⟨_, k, hk, hb, _⟩
  · rw [if_pos hb] at he; exact absurd he hb
  · rw [hb] at he ⊢
    rw [if_neg (by simp)] at he ⊢
    split at he
    · simp at he
    · rename_i h1
      rw [if_neg h1]
      split at he
      · simp at he
      · rename_i h2
        rw [if_neg h2]
        exact shape_setAt h _ _
end Go.Proofs.YtofhcgbihonckaaGreatDoor

open Go
namespace Go.Proofs.YtofhcgbihonckaaGreatDoor

def sk (n : NodeT) : Int × ByteArray := (n.parent, n.name)
theorem par_sk {T U : List NodeT} (h : T.map sk = U.map sk) (i : Nat) : parOf T i = parOf U i := by
  have e : ∀ L : List NodeT, parOf L i = ((L.map sk)[i]?.map Prod.fst).getD (-1) := by
    intro L; unfold parOf; rw [List.getElem?_map]; cases L[i]? <;> rfl
  rw [e, e, h]
theorem len_sk {T U : List NodeT} (h : T.map sk = U.map sk) : T.length = U.length := by simpa using congrArg List.length h
theorem dep_sk {T U : List NodeT} (h : T.map sk = U.map sk) : ∀ (f : Nat) (u : Int), depF T f u = depF U f u := by
  intro f
  induction f with
  | zero => intro u; rfl
  | succ f ih => intro u; unfold depF; rw [par_sk h, ih]
theorem deep_sk {T U : List NodeT} (h : T.map sk = U.map sk) : deepT T = deepT U := by
  unfold deepT depT; rw [len_sk h]; simp only [dep_sk h]
theorem twin_sk : ∀ (T U : List NodeT) (i : Nat) (seen : List (ByteArray × Int)), T.map sk = U.map sk → twinF i seen T = twinF i seen U := by
  intro T
  induction T with
  | nil => intro U i seen h; cases U with
    | nil => rfl
    | cons u U => simp at h
  | cons n T ih => intro U i seen h; cases U with
    | nil => simp at h
    | cons u U =>
      simp only [List.map_cons, List.cons.injEq, sk, Prod.mk.injEq] at h
      obtain ⟨⟨h1, h2⟩, h3⟩ := h
      unfold twinF; rw [h1, h2, ih U _ _ h3]
theorem up_sk {T U : List NodeT} (h : T.map sk = U.map sk) (p : Int) : ∀ (f : Nat) (u : Int), upT3 T p f u = upT3 U p f u := by
  intro f
  induction f with
  | zero => intro u; rfl
  | succ f ih => intro u; unfold upT3; rw [par_sk h, ih]
theorem walked_sk {T U : List NodeT} (h : T.map sk = U.map sk) : ∀ (L M : List NodeT) (i : Nat) (last : List ByteArray), L.map sk = M.map sk → (∀ n ∈ M, ascT n.props = true) → walkedF T i last L = true → walkedF U i last M = true := by
  intro L
  induction L with
  | nil => intro M i last hm ha hw; cases M with
    | nil => rfl
    | cons u U => simp at hm
  | cons n L ih => intro M i last hm ha hw; cases M with
    | nil => simp at hm
    | cons m M =>
      simp only [List.map_cons, List.cons.injEq, sk, Prod.mk.injEq] at hm
      obtain ⟨⟨h1, h2⟩, h3⟩ := hm
      have hM : ∀ n ∈ M, ascT n.props = true := fun n hn => ha n (List.mem_cons_of_mem _ hn)
      unfold walkedF at hw ⊢
      rw [Bool.and_eq_true] at hw ⊢
      refine ⟨ha m (List.mem_cons_self ..), ?_⟩
      by_cases h0 : i = 0
      · rw [if_pos h0] at hw ⊢
        exact ih M _ _ h3 hM hw.2
      · rw [if_neg h0] at hw ⊢
        simp only [Bool.and_eq_true] at hw ⊢
        rw [← h2, ← h1, ← up_sk h]
        exact ⟨hw.2.1, ih M _ _ h3 hM hw.2.2⟩
theorem named_sk : ∀ (L M : List NodeT) (i : Nat), L.map sk = M.map sk → (∀ n ∈ M, n.props.all (fun p => propB p.name) = true) → namedF i L = true → namedF i M = true := by
  intro L
  induction L with
  | nil => intro M i hm ha hw; cases M with
    | nil => rfl
    | cons u U => simp at hm
  | cons n L ih => intro M i hm ha hw; cases M with
    | nil => simp at hm
    | cons m M =>
      simp only [List.map_cons, List.cons.injEq, sk, Prod.mk.injEq] at hm
      obtain ⟨⟨h1, h2⟩, h3⟩ := hm
      rw [namedF_cons] at hw ⊢
      simp only [Bool.and_eq_true] at hw ⊢
      refine ⟨⟨?_, ha m (List.mem_cons_self ..)⟩, ih M _ h3 (fun n hn => ha n (List.mem_cons_of_mem _ hn)) hw.2⟩
      have := hw.1.1
      unfold headB at this ⊢
      rw [← h1, ← h2]; exact this

theorem put_mem {l : List PropT} {p q : PropT} (h : q ∈ putT l p) : q = p ∨ q ∈ l := by
  unfold putT at h
  rcases List.mem_append.1 h with h | h
  · exact .inr (List.mem_of_mem_take h)
  · rcases List.mem_cons.1 h with h | h
    · exact .inl h
    · exact .inr (List.mem_of_mem_drop h)
theorem put_nil (p : PropT) : putT [] p = [p] := rfl
theorem put_less {a p : PropT} {r : List PropT} (h : ltS a.name p.name = true) : putT (a :: r) p = a :: putT r p := by
  have e : lowT (a :: r) p.name = lowT r p.name + 1 := by unfold lowT; rw [List.takeWhile_cons, if_pos h]; rfl
  have e2 : hasT (a :: r) p.name = hasT r p.name := by unfold hasT; rw [e]; rfl
  unfold putT restT
  rw [e, e2, show lowT r p.name + 1 + (if hasT r p.name = true then 1 else 0) = (lowT r p.name + if hasT r p.name = true then 1 else 0) + 1 from by omega]
  rfl
theorem put_here {a p : PropT} {r : List PropT} (h : ltS a.name p.name = false) : putT (a :: r) p = p :: (if a.name = p.name then r else a :: r) := by
  have e : lowT (a :: r) p.name = 0 := by unfold lowT; rw [List.takeWhile_cons, if_neg (by simp [h])]; rfl
  unfold putT restT hasT
  rw [e]
  by_cases he : a.name = p.name
  · rw [if_pos he]; simp [(eqS_iff _ _).2 he]
  · rw [if_neg he]
    have : eqS a.name p.name = false := by
      cases h' : eqS a.name p.name with
      | false => rfl
      | true => exact absurd ((eqS_iff _ _).1 h') he
    simp [this]
theorem asc_cons {a : PropT} {l : List PropT} : ascT (a :: l) = true ↔ (∀ b, l.head? = some b → ltS a.name b.name = true) ∧ ascT l = true := by
  cases l with
  | nil => simp [ascT]
  | cons b r => simp [ascT]
theorem asc_put : ∀ (l : List PropT) (p : PropT), ascT l = true → ascT (putT l p) = true := by
  intro l p
  induction l with
  | nil => intro _; rfl
  | cons a r ih =>
    intro h
    rw [asc_cons] at h
    cases hl : ltS a.name p.name with
    | true =>
      rw [put_less hl, asc_cons]
      refine ⟨fun b hb => ?_, ih h.2⟩
      cases r with
      | nil => rw [put_nil] at hb; cases hb; exact hl
      | cons c r =>
        cases h2 : ltS c.name p.name with
        | true => rw [put_less h2] at hb; cases hb; exact h.1 _ rfl
        | false => rw [put_here h2] at hb; cases hb; exact hl
    | false =>
      rw [put_here hl]
      by_cases he : a.name = p.name
      · rw [if_pos he, asc_cons]; exact ⟨fun b hb => by rw [← he]; exact h.1 b hb, h.2⟩
      · rw [if_neg he, asc_cons]
        refine ⟨fun b hb => ?_, asc_cons.2 h⟩
        cases hb
        rcases ltS_total hl with e | e
        · exact absurd e he
        · exact e

theorem check_parts {T : List NodeT} (h : checkT T = 0) : limitsT T = true ∧ namedT T = true ∧ walkedT T = true ∧ twinT T = false ∧ deepT T = false := by
  unfold checkT at h
  by_cases h1 : limitsT T = false
  · rw [if_pos h1] at h; cases h
  rw [if_neg h1] at h
  by_cases h2 : namedT T = false
  · rw [if_pos h2] at h; cases h
  rw [if_neg h2] at h
  by_cases h3 : walkedT T = false
  · rw [if_pos h3] at h; cases h
  rw [if_neg h3] at h
  by_cases h4 : twinT T = true
  · rw [if_pos h4] at h; cases h
  rw [if_neg h4] at h
  by_cases h5 : deepT T = true
  · rw [if_pos h5] at h; cases h
  exact ⟨by simpa using h1, by simpa using h2, by simpa using h3, by simpa using h4, by simpa using h5⟩
theorem check_of {T : List NodeT} (h : limitsT T = true ∧ namedT T = true ∧ walkedT T = true ∧ twinT T = false ∧ deepT T = false) : checkT T = 0 := by
  unfold checkT
  rw [if_neg (by simp [h.1]), if_neg (by simp [h.2.1]), if_neg (by simp [h.2.2.1]), if_neg (by simp [h.2.2.2.1]), if_neg (by simp [h.2.2.2.2])]
theorem setAt_sk (T : List NodeT) (k : Nat) (p : PropT) : T.map sk = (setAt T k p).map sk := by
  unfold setAt
  by_cases hk : k < T.length
  · rw [List.getElem?_eq_getElem hk]
    simp only [List.map_set]
    rw [show sk (setNode T[k] p) = (T.map sk)[k]'(by simpa using hk) from by simp [sk, setNode], List.set_getElem_self]
  · rw [List.getElem?_eq_none (by omega)]
theorem setAt_mem {T : List NodeT} {k : Nat} {p : PropT} {n : NodeT} (h : n ∈ setAt T k p) : n ∈ T ∨ ∃ m ∈ T, n = setNode m p := by
  unfold setAt at h
  by_cases hk : k < T.length
  · rw [List.getElem?_eq_getElem hk] at h
    rcases List.mem_or_eq_of_mem_set h with h | h
    · exact .inl h
    · exact .inr ⟨T[k], List.getElem_mem hk, h⟩
  · rw [List.getElem?_eq_none (by omega)] at h; exact .inl h
theorem setAt_valid {T : List NodeT} {k : Nat} {p : PropT} (h : checkT T = 0) (hp : propB p.name = true) (hl : limitsT (setAt T k p) = true) : checkT (setAt T k p) = 0 := by
  have hs := setAt_sk T k p
  have ha := check_asc h
  obtain ⟨h1, h2, h3, h4, h5⟩ := check_parts h
  have hpr : ∀ n ∈ T, n.props.all (fun p => propB p.name) = true := by
    intro n hn
    obtain ⟨i, hi, rfl⟩ := List.getElem_of_mem hn
    exact (named_at T 0 h2 i hi).2
  refine check_of ⟨hl, ?_, ?_, ?_, ?_⟩
  · refine named_sk T _ 0 hs (fun n hn => ?_) h2
    rcases setAt_mem hn with h | ⟨m, hm, rfl⟩
    · exact hpr n h
    · rw [List.all_eq_true]
      intro q hq
      rcases put_mem hq with e | e
      · rw [e]; exact hp
      · exact List.all_eq_true.1 (hpr m hm) q e
  · unfold walkedT
    rw [← len_sk hs]
    refine walked_sk hs T _ 0 _ hs (fun n hn => ?_) h3
    rcases setAt_mem hn with h | ⟨m, hm, rfl⟩
    · exact ha n h
    · exact asc_put _ _ (ha m hm)
  · rw [← h4]; exact (twin_sk _ _ 0 [] hs).symm
  · rw [← h5]; exact (deep_sk hs).symm
theorem set_valid {T : List NodeT} {s name value : ByteArray} (he : (setT T s name value).2 = 0) : checkT (setT T s name value).1 = 0 ∧ (setT T s name value).1.length = T.length := by
  unfold setT at he ⊢
  rcases begin_cases T s with ⟨hb, _⟩ | ⟨hc, k, hk, hb, _⟩
  · rw [if_pos hb] at he; exact absurd he hb
  · rw [hb] at he ⊢
    rw [if_neg (by simp)] at he ⊢
    by_cases h1 : propB name = false
    · rw [if_pos h1] at he; simp at he
    rw [if_neg h1] at he ⊢
    by_cases h2 : limitsT (setAt T ((k : Int), (0 : Int)).1.toNat ⟨name, value⟩) = false
    · rw [if_pos h2] at he; simp at he
    rw [if_neg h2]
    exact ⟨setAt_valid hc (by simpa using h1) (by simpa using h2), (len_sk (setAt_sk _ _ _)).symm⟩
end Go.Proofs.YtofhcgbihonckaaGreatDoor
