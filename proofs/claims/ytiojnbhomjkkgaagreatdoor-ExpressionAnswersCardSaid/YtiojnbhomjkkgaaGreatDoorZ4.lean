/- What the functions of token compute, in plain Lean: bytes. | Trees, and what Check of tree computes, in plain Lean. -/
import Derived.Test.YtiojnbhomjkkgaaGreatDoorRows
import Derived.Lib.IndexMore
import Derived.Lib.IndexAny
import Derived.Lib.Strings
import Derived.Lib.Bytes2
import Derived.Laws.Strings

set_option linter.unusedVariables false
set_option linter.unusedSimpArgs false
set_option linter.unusedSectionVars false

open Go
namespace Go.Proofs.YtiojnbhomjkkgaaGreatDoor

def letterB (c : Int) : Bool := decide (97 ≤ c ∧ c ≤ 122 ∨ 65 ≤ c ∧ c ≤ 90)
def digitB (c : Int) : Bool := decide (48 ≤ c ∧ c ≤ 57)
def wordB (c : Int) : Bool := letterB c || digitB c || decide (c = 95)
def memB (l : List UInt8) (c : Int) : Bool := l.any fun x => decide ((x.toNat : Int) = c)
def punctB (c : Int) : Bool := memB [44, 46, 43, 45, 63, 35, 64] c
def nameB (c : Int) : Bool := wordB c || punctB c
def smallB (c : Int) : Bool := decide (97 ≤ c ∧ c ≤ 122 ∨ c = 45)
def hexV (c : Int) : Int := if 48 ≤ c ∧ c ≤ 57 then c - 48 else if 97 ≤ c ∧ c ≤ 102 then c - 87 else if 65 ≤ c ∧ c ≤ 70 then c - 55 else -1
def allB (p : Int → Bool) (l : List UInt8) : Bool := l.all fun x => p x.toNat
def runB (p : Int → Bool) (l : List UInt8) : Nat := (l.takeWhile fun x => p x.toNat).length

theorem drop_cons (s : ByteArray) (k : Nat) (h : k < s.size) : s.data.toList.drop k = s[k] :: s.data.toList.drop (k + 1) := by
  have h' : k < s.data.toList.length := by simpa using h
  rw [List.drop_eq_getElem_cons h']; rfl
theorem drop_end (s : ByteArray) (k : Nat) (h : s.size ≤ k) : s.data.toList.drop k = [] :=
  List.drop_eq_nil_of_le (by simpa using h)
theorem byte_lt (b : UInt8) : (b.toNat : Int) ≤ 255 := by have := b.toNat_lt; omega
theorem allB_cons (p : Int → Bool) (x : UInt8) (l : List UInt8) : allB p (x :: l) = (p x.toNat && allB p l) := by simp [allB]
theorem runB_cons (p : Int → Bool) (x : UInt8) (l : List UInt8) : runB p (x :: l) = if p x.toNat = true then runB p l + 1 else 0 := by
  unfold runB; by_cases h : p x.toNat = true <;> simp [h]
theorem runB_le (p : Int → Bool) (l : List UInt8) : runB p l ≤ l.length := (List.takeWhile_sublist _).length_le

/-- Line and column behind some bytes. -/
def adv : List UInt8 → Int × Int → Int × Int
  | [], p => p
  | x :: l, p => adv l (if x.toNat = 10 then (p.1 + 1, 1) else (p.1, p.2 + 1))
theorem adv_snoc (l : List UInt8) (x : UInt8) : ∀ p, adv (l ++ [x]) p = if x.toNat = 10 then ((adv l p).1 + 1, 1) else ((adv l p).1, (adv l p).2 + 1) := by
  induction l with
  | nil => intro p; simp [adv]
  | cons y l ih => intro p; simp only [List.cons_append, adv]; rw [ih]
theorem adv_append (l m : List UInt8) : ∀ p, adv (l ++ m) p = adv m (adv l p) := by
  induction l with
  | nil => intro p; simp [adv]
  | cons y l ih => intro p; simp only [List.cons_append, adv]; rw [ih]
theorem take_snoc (s : ByteArray) (k : Nat) (h : k < s.size) : s.data.toList.take (k + 1) = s.data.toList.take k ++ [s[k]] := by
  rw [List.take_succ_eq_append_getElem (by simpa using h)]; rfl
theorem adv_bd (l : List UInt8) : ∀ p : Int × Int, 1 ≤ p.1 → 1 ≤ p.2 → 1 ≤ (adv l p).1 ∧ 1 ≤ (adv l p).2 ∧ (adv l p).1 ≤ p.1 + l.length ∧ (adv l p).2 ≤ p.2 + l.length := by
  induction l with
  | nil => intro p h1 h2; simp [adv]; omega
  | cons y l ih =>
    intro p h1 h2
    simp only [adv, List.length_cons]
    split
    · have := ih (p.1 + 1, 1) (by simp; omega) (by simp); simp at this ⊢; omega
    · have := ih (p.1, p.2 + 1) (by simpa using h1) (by simp; omega); simp at this ⊢; omega

theorem idx_mem (l : List UInt8) (c : Int) (h0 : 0 ≤ c) (h1 : c ≤ 255) : decide (0 ≤ Lib.indexByte l c.toNat.toUInt8) = memB l c := by
  rw [← Lib.contains_iff_indexByte, Bool.eq_iff_iff]
  simp only [List.contains_iff_mem, memB, List.any_eq_true, decide_eq_true_eq]
  have e : c.toNat.toUInt8.toNat = c.toNat := by simp [Nat.toUInt8]; omega
  constructor
  · intro h; exact ⟨_, h, by rw [e]; omega⟩
  · rintro ⟨x, hx, hxc⟩
    have : x = c.toNat.toUInt8 := by apply UInt8.toNat_inj.1; rw [e]; omega
    exact this ▸ hx

theorem idx_byte (l : List UInt8) (b : UInt8) : decide (0 ≤ Lib.indexByte l b) = memB l b.toNat := by
  rw [← idx_mem l b.toNat (by omega) (byte_lt _)]; simp
theorem idx_yes {l : List UInt8} {b : UInt8} (h : 0 ≤ Lib.indexByte l b) : memB l b.toNat = true := by rw [← idx_byte]; simpa using h
theorem idx_no {l : List UInt8} {b : UInt8} (h : Lib.indexByte l b < 0) : memB l b.toNat = false := by rw [← idx_byte]; simpa using h
/-- Name and Label. -/
def nameT (l : List UInt8) : Bool := decide (1 ≤ l.length ∧ l.length ≤ 31) && (letterB (l.headD 0).toNat || decide (((l.headD 0).toNat : Int) = 95)) && allB nameB l
def labelT (l : List UInt8) : Bool := decide (1 ≤ l.length ∧ l.length ≤ 31) && !digitB (l.headD 0).toNat && allB wordB l
theorem head_of (s : ByteArray) (h : 0 < s.size) : s.data.toList.headD 0 = s[0] := by
  have := drop_cons s 0 h
  rw [List.drop_zero] at this
  rw [this]; rfl
def sepB (c : Int) : Bool := memB [32, 9, 13, 10] c
def notNlB (c : Int) : Bool := decide (c ≠ 10)
end Go.Proofs.YtiojnbhomjkkgaaGreatDoor

open Go
namespace Go.Proofs.YtiojnbhomjkkgaaGreatDoor

structure PropT where
  name : ByteArray
  value : ByteArray
  deriving DecidableEq
structure NodeT where
  parent : Int
  name : ByteArray
  props : List PropT
  deriving DecidableEq
instance : Inhabited NodeT := ⟨⟨-1, ByteArray.empty, []⟩⟩

/-- The order of texts, and sameness. -/
def ltS (a b : ByteArray) : Bool := Op.bytesLess a.toList b.toList
def eqS (a b : ByteArray) : Bool := a.toList == b.toList
def parOf (T : List NodeT) (i : Nat) : Int := match T[i]? with
  | some n => n.parent
  | none => -1
theorem parOf_at {T : List NodeT} {i : Nat} (h : i < T.length) : parOf T i = T[i].parent := by
  unfold parOf; rw [List.getElem?_eq_getElem h]

/-- Is it the name of a property? -/
def propT (l : List UInt8) : Bool :=
  if Lib.hasPrefix l [35] = true then nameT (95 :: l.drop 1) && !memB (95 :: l.drop 1) 64 else nameT l && !memB l 64
def propB (s : ByteArray) : Bool := propT s.data.toList
def fitB (n : NodeT) : Bool := decide (n.props.length ≤ 24) && n.props.all fun p => decide (p.value.size ≤ 256)
def limitsT (T : List NodeT) : Bool := decide (1 ≤ T.length ∧ T.length ≤ 120) && T.all fitB
def headB (i : Nat) (n : NodeT) : Bool :=
  if i = 0 then decide (n.parent = -1) && eqS n.name ByteArray.empty else decide (0 ≤ n.parent ∧ n.parent < i) && nameT n.name.data.toList
def namedF : Nat → List NodeT → Bool
  | _, [] => true
  | i, n :: r => headB i n && (n.props.all fun p => propB p.name) && namedF (i + 1) r
def namedT (T : List NodeT) : Bool := namedF 0 T
/-- Are the names of properties ascending? -/
def ascT : List PropT → Bool
  | [] => true
  | [_] => true
  | a :: b :: r => ltS a.name b.name && ascT (b :: r)
/-- The first node from one on upwards whose number is p, -1 if there is none. -/
def upT3 (T : List NodeT) (p : Int) : Nat → Int → Int
  | 0, u => u
  | f + 1, u => if u < 0 ∨ u = p then u else upT3 T p f (parOf T u.toNat)
def walkedF (T : List NodeT) : Nat → List ByteArray → List NodeT → Bool
  | _, _, [] => true
  | i, last, n :: r => ascT n.props && (if i = 0 then walkedF T 1 last r else
      let u := upT3 T n.parent (i + 1) (i - 1)
      decide (0 ≤ u) && !ltS n.name (last.getD u.toNat ByteArray.empty) && walkedF T (i + 1) (last.set u.toNat n.name) r)
def walkedT (T : List NodeT) : Bool := walkedF T 0 (List.replicate T.length ByteArray.empty) T
def twinF : Nat → List (ByteArray × Int) → List NodeT → Bool
  | _, _, [] => false
  | i, seen, n :: r => (decide (0 < i) && seen.any (fun x => eqS x.1 n.name && decide (x.2 = n.parent))) || twinF (i + 1) (seen ++ [(n.name, n.parent)]) r
def twinT (T : List NodeT) : Bool := twinF 0 [] T
/-- How many steps are there to the root? -/
def depF (T : List NodeT) : Nat → Int → Nat
  | 0, _ => 0
  | f + 1, u => if 0 < u then depF T f (parOf T u.toNat) + 1 else 0
def depT (T : List NodeT) (i : Nat) : Nat := depF T T.length i
def deepT (T : List NodeT) : Bool := (List.range T.length).any fun i => decide (8 < depT T i)
def checkT (T : List NodeT) : Int :=
  if limitsT T = false then 3 else if namedT T = false then 1 else if walkedT T = false then 12 else if twinT T = true then 5 else if deepT T = true then 2 else 0

theorem namedF_cons {i : Nat} {n : NodeT} {r : List NodeT} : namedF i (n :: r) = (headB i n && (n.props.all fun p => propB p.name) && namedF (i + 1) r) := rfl
theorem named_at : ∀ (T : List NodeT) (i : Nat), namedF i T = true → ∀ k (h : k < T.length), headB (i + k) T[k] = true ∧ T[k].props.all (fun p => propB p.name) = true := by
  intro T
  induction T with
  | nil => intro i _ k h; simp at h
  | cons n r ih =>
    intro i h k hk
    rw [namedF_cons, Bool.and_eq_true, Bool.and_eq_true] at h
    cases k with
    | zero => exact ⟨h.1.1, h.1.2⟩
    | succ k =>
      have := ih (i + 1) h.2 k (by simpa using hk)
      rw [show i + 1 + k = i + (k + 1) from by omega] at this
      exact this
/-- Parents of a named tree. -/
theorem named_par {T : List NodeT} (h : namedT T = true) (k : Nat) (hk : k < T.length) : (k = 0 → T[k].parent = -1) ∧ (0 < k → 0 ≤ T[k].parent ∧ T[k].parent < k) := by
  have := (named_at T 0 h k hk).1
  rw [Nat.zero_add] at this
  unfold headB at this
  constructor
  · intro h0; rw [if_pos h0] at this; simp at this; exact this.1
  · intro h0; rw [if_neg (by omega)] at this; simp at this; exact ⟨this.1.1, this.1.2⟩
theorem depF_fuel {T : List NodeT} (h : namedT T = true) : ∀ (n : Nat) (u : Int), u.toNat ≤ n → u < T.length → ∀ f g, u.toNat ≤ f → u.toNat ≤ g → depF T f u = depF T g u := by
  intro n
  induction n with
  | zero =>
    intro u hu _ f g _ _
    have : ¬ 0 < u := by omega
    cases f <;> cases g <;> simp [depF, this]
  | succ n ih =>
    intro u hu hl f g hf hg
    by_cases h0 : 0 < u
    · obtain ⟨f, rfl⟩ : ∃ f', f = f' + 1 := ⟨f - 1, by omega⟩
      obtain ⟨g, rfl⟩ : ∃ f', g = f' + 1 := ⟨g - 1, by omega⟩
      have hk : u.toNat < T.length := by omega
      have hp := (named_par h u.toNat hk).2 (by omega)
      have hpe := parOf_at hk
      simp only [depF]
      rw [if_pos h0, if_pos h0, ih _ (by omega) (by omega) f g (by omega) (by omega)]
    · cases f <;> cases g <;> simp [depF, h0]
end Go.Proofs.YtiojnbhomjkkgaaGreatDoor
