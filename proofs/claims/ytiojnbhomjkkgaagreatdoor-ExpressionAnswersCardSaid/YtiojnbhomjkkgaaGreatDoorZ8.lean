/- What Read of token computes, in plain Lean. | Digits of a number, in plain Lean. | Plain laws on what next of token computes: how far it reads. | Plain laws: what the tokens of a number's digits are. | Plain laws: what separates tokens changes only places. | Plain laws: places of tokens ascend; a line feed ends what was before; a line feed in front moves all. | Plain laws: places of tokens ascend; a line feed ends what was before; a line feed in front moves all: whole texts. | Plain laws: the tokens of texts put together of pieces. -/
import Derived.Test.YtiojnbhomjkkgaaGreatDoorZ4
import Derived.Laws.Closers25b

set_option linter.unusedVariables false
set_option linter.unusedSimpArgs false
set_option linter.unusedSectionVars false

namespace Go.Proofs.YtiojnbhomjkkgaaGreatDoor

theorem empty_of (s : ByteArray) (h : s.size = 0) : s = ByteArray.empty := by
  apply ByteArray.ext; apply Array.eq_empty_of_size_eq_zero; simpa using h
theorem toList_ne (s : ByteArray) (h : 0 < s.size) : ¬ s.toList = [] := by
  rw [toList_nil_iff_emptyBytes]; rintro rfl; simp at h
theorem toList_isEmpty (s : ByteArray) (h : 0 < s.size) : s.toList.isEmpty = false := by
  have := toList_ne s h; simpa using this

/-- What stands between tokens: how many bytes, and whether a comment does not end. -/
def blk : Nat → List UInt8 → Nat × Bool
  | 0, _ => (0, false)
  | _ + 1, [] => (0, false)
  | f + 1, c :: r =>
    if sepB c.toNat = true then ((blk f r).1 + 1, (blk f r).2)
    else if Lib.hasPrefix (c :: r) [47, 47] = true then
      let k := runB notNlB (c :: r)
      ((blk f ((c :: r).drop k)).1 + k, (blk f ((c :: r).drop k)).2)
    else if Lib.hasPrefix (c :: r) [47, 42] = true then
      let e := Lib.index ((c :: r).drop 2) [42, 47]
      if e < 0 then (0, true) else ((blk f ((c :: r).drop (e.toNat + 4))).1 + (e.toNat + 4), (blk f ((c :: r).drop (e.toNat + 4))).2)
    else (0, false)

theorem blk_le : ∀ (f : Nat) (l : List UInt8), (blk f l).1 ≤ l.length := by
  intro f
  induction f with
  | zero => intro l; simp [blk]
  | succ f ih =>
    intro l
    cases l with
    | nil => simp [blk]
    | cons c r =>
      simp only [blk]
      split
      · have := ih r; simp; omega
      · split
        · have h1 := ih ((c :: r).drop (runB notNlB (c :: r)))
          have h2 := runB_le notNlB (c :: r)
          simp only [List.length_drop] at h1
          simp only; omega
        · split
          · split
            · simp
            · rename_i h2 h3
              have h1 := ih ((c :: r).drop ((Lib.index ((c :: r).drop 2) [42, 47]).toNat + 4))
              have hr := Lib.index_room ((c :: r).drop 2) [42, 47] (by omega)
              have hp := Lib.hasPrefix_le h2
              simp only [List.length_drop, List.length_cons, List.length_nil] at h1 hr hp ⊢
              omega
          · simp

/-- The value of the digits, or nothing; beyond the greatest cell only the size matters no more. -/
def numFold (base : Int) : List UInt8 → Int → Option Int
  | [], n => some n
  | c :: r, n => if hexV c.toNat < 0 ∨ base ≤ hexV c.toNat then none else numFold base r (min (n * base + hexV c.toNat) 4294967296)
def numParts (l : List UInt8) : Int × List UInt8 :=
  if Lib.hasPrefix l [48, 120] = true then (16, l.drop 2) else if 1 < l.length ∧ l.headD 0 = 48 then (8, l.drop 1) else (10, l)
def numR (o : Option Int) : Int × Int :=
  match o with
  | none => (0, 6)
  | some n => if n > 4294967295 then (0, 2) else (n, 0)
def numT (l : List UInt8) : Int × Int := if (numParts l).2 = [] then (0, 6) else numR (numFold (numParts l).1 (numParts l).2 0)

/-- Digits of a byte, n of them, behind the value v. -/
def hx2 : Nat → List UInt8 → Int → Int × Nat × Int
  | 0, _, v => (v, 3, 0)
  | _ + 1, [], _ => (0, 0, 21)
  | n + 1, a :: r, v => if a.toNat = 10 then (0, 0, 21) else if hexV a.toNat < 0 then (0, 0, 6) else hx2 n r (16 * v + hexV a.toNat)
/-- The byte that the characters behind a backslash stand for, their number, the error. -/
def esc (l : List UInt8) : Int × Nat × Int :=
  match l with
  | [] => (0, 0, 21)
  | c :: r =>
    if c.toNat = 10 then (0, 0, 21)
    else if c.toNat = 110 then (10, 1, 0) else if c.toNat = 116 then (9, 1, 0) else if c.toNat = 34 then (34, 1, 0) else if c.toNat = 92 then (92, 1, 0)
    else if c.toNat ≠ 120 then (0, 0, 6)
    else hx2 2 r 0
theorem hexV_bd (c : Int) : -1 ≤ hexV c ∧ hexV c ≤ 15 := by unfold hexV; split; omega; split; omega; split; omega; omega

/-- The string's text, gathered in acc from place i on; its number of bytes; the error. -/
def qtA : Nat → List UInt8 → List UInt8 → Nat → List UInt8 × Nat × Int
  | 0, _, _, _ => ([], 0, 21)
  | _ + 1, [], _, _ => ([], 0, 21)
  | f + 1, c :: r, acc, i =>
    if c.toNat = 34 then (acc, i + 1, 0)
    else if c.toNat = 10 then ([], 0, 21)
    else if c.toNat = 92 then
      (if (esc r).2.2 ≠ 0 then ([], 0, (esc r).2.2) else qtA f (r.drop (esc r).2.1) (acc ++ [(esc r).1.toNat.toUInt8]) (i + (esc r).2.1 + 1))
    else qtA f r (acc ++ [c]) (i + 1)

def pairsL : List (List UInt8) := [[60, 60], [62, 62], [60, 61], [62, 61], [61, 61], [33, 61], [38, 38], [124, 124]]
def singlesL : List UInt8 := [123, 125, 40, 41, 60, 62, 91, 93, 59, 61, 44, 43, 45, 42, 47, 37, 38, 124, 94, 126, 33, 63, 58]
def signN (l : List UInt8) : Nat :=
  if pairsL.any (fun p => Lib.hasPrefix l p) = true then 2 else if memB singlesL (l.headD 0).toNat = true then 1 else 0

/-- A token without its place. -/
structure Tok where
  kind : Int
  text : List UInt8
  value : Int
  line : Int
  col : Int
  deriving DecidableEq, Repr

/-- The token with which a text that is not empty begins, its number of bytes, the error. -/
def nextT (l : List UInt8) : Tok × Nat × Int :=
  let c : Int := (l.headD 0).toNat
  let sg : Tok × Nat × Int := if signN l > 0 then (⟨4, l.take (signN l), 0, 0, 0⟩, signN l, 0) else (⟨0, [], 0, 0, 0⟩, 0, 20)
  if letterB c = true ∨ c = 95 ∨ c = 35 then
    let n := runB nameB l
    if n = l.length ∨ (l.getD n 0).toNat ≠ 58 then (⟨1, l.take n, 0, 0, 0⟩, n, 0)
    else if allB wordB (l.take n) = true then (⟨5, l.take n, 0, 0, 0⟩, n + 1, 0) else (⟨0, [], 0, 0, 0⟩, 0, 6)
  else if digitB c = true then
    let n := runB wordB l
    (⟨2, [], (numT (l.take n)).1, 0, 0⟩, n, (numT (l.take n)).2)
  else if c = 34 then
    let q := qtA l.length (l.drop 1) [] 1
    (⟨3, q.1, 0, 0, 0⟩, q.2.1, q.2.2)
  else if c = 38 ∧ 1 < l.length ∧ (letterB (l.getD 1 0).toNat = true ∨ (l.getD 1 0).toNat = 95) then
    let n := runB wordB (l.drop 1) + 1
    (⟨6, (l.take n).drop 1, 0, 0, 0⟩, n, 0)
  else if c = 47 then
    let n := runB smallB (l.drop 1)
    if n > 0 ∧ n + 1 < l.length ∧ (l.getD (n + 1) 0).toNat = 47 then (⟨7, (l.take (n + 1)).drop 1, 0, 0, 0⟩, n + 2, 0) else sg
  else sg

/-- All tokens of a text; without an error the place is nowhere. -/
def rdA (file : Int) : Nat → List UInt8 → Int × Int → List Tok → List Tok × (Int × Int × Int) × Int
  | 0, _, p, _ => ([], (file, p.1, p.2), 21)
  | f + 1, l, p, acc =>
    let b := blk l.length l
    let p1 := adv (l.take b.1) p
    let l1 := l.drop b.1
    if b.2 = true then ([], (file, p1.1, p1.2), 21)
    else if acc.length = 6000 then ([], (file, p1.1, p1.2), 3)
    else if l1 = [] then (acc ++ [⟨8, [], 0, p1.1, p1.2⟩], (0, 0, 0), 0)
    else
      let t := nextT l1
      if t.2.2 ≠ 0 then ([], (file, p1.1, p1.2), t.2.2)
      else rdA file f (l1.drop t.2.1) (adv (l1.take t.2.1) p1) (acc ++ [{ t.1 with line := p1.1, col := p1.2 }])
def readT (l : List UInt8) (file : Int) : List Tok × (Int × Int × Int) × Int :=
  if 16000 < l.length then ([], (0, 0, 0), 3) else rdA file (l.length + 1) l (1, 1) []
theorem numParts_bd (l : List UInt8) : 8 ≤ (numParts l).1 ∧ (numParts l).1 ≤ 16 := by
  unfold numParts; split; simp; split <;> simp
theorem numParts_len (l : List UInt8) : (numParts l).2.length ≤ l.length := by
  unfold numParts; split; simp; split <;> simp
theorem drop_toList (s : ByteArray) (a : Nat) : (s.extract a s.size).data.toList = s.data.toList.drop a := by
  simp [ByteArray.data_extract, Array.toList_extract, List.extract_eq_take_drop]
  try exact List.take_of_length_le (by simp)
theorem take_toList (s : ByteArray) (a b : Nat) : (s.extract a b).data.toList = (s.data.toList.take b).drop a := by
  simp [ByteArray.data_extract, Array.toList_extract, List.extract_eq_take_drop]
  try rw [List.drop_take]
theorem numFold_bd (base : Int) : ∀ (l : List UInt8) (n r : Int), numFold base l n = some r → 0 ≤ base → 0 ≤ n → n ≤ 4294967296 → 0 ≤ r ∧ r ≤ 4294967296 := by
  intro l
  induction l with
  | nil => intro n r h; simp [numFold] at h; omega
  | cons c l ih =>
    intro n r h hb h0 h1
    simp only [numFold] at h
    split at h
    · cases h
    · have : 0 ≤ n * base := Int.mul_nonneg h0 hb
      exact ih _ _ h hb (by omega) (by omega)
end Go.Proofs.YtiojnbhomjkkgaaGreatDoor

namespace Go.Proofs.YtiojnbhomjkkgaaGreatDoor

def digCh (cap : Bool) (d : Nat) : UInt8 := if d < 10 then (48 + d).toUInt8 else if cap then (55 + d).toUInt8 else (87 + d).toUInt8
def digitsT (base : Nat) (cap : Bool) : Nat → Nat → List UInt8 → List UInt8
  | 0, _, acc => acc
  | f + 1, n, acc => if n = 0 then acc else digitsT base cap f (n / base) (digCh cap (n % base) :: acc)
def basedT (base : Nat) (cap : Bool) (n : Nat) : List UInt8 := digitsT base cap (n / base) (n / base) [digCh cap (n % base)]

theorem dig_small (d : Nat) (h : d < 16) : (⟨#[48, 49, 50, 51, 52, 53, 54, 55, 56, 57, 97, 98, 99, 100, 101, 102]⟩ : ByteArray).extract d (d + 1) = ⟨#[digCh false d]⟩ := by
  have : ∀ x : Fin 16, (⟨#[48, 49, 50, 51, 52, 53, 54, 55, 56, 57, 97, 98, 99, 100, 101, 102]⟩ : ByteArray).extract x (x + 1) = ⟨#[digCh false x]⟩ := by decide +kernel
  exact this ⟨d, h⟩
theorem dig_great (d : Nat) (h : d < 16) : (⟨#[48, 49, 50, 51, 52, 53, 54, 55, 56, 57, 65, 66, 67, 68, 69, 70]⟩ : ByteArray).extract d (d + 1) = ⟨#[digCh true d]⟩ := by
  have : ∀ x : Fin 16, (⟨#[48, 49, 50, 51, 52, 53, 54, 55, 56, 57, 65, 66, 67, 68, 69, 70]⟩ : ByteArray).extract x (x + 1) = ⟨#[digCh true x]⟩ := by decide +kernel
  exact this ⟨d, h⟩

theorem size_one (x : UInt8) : (⟨#[x]⟩ : ByteArray).size = 1 := rfl
end Go.Proofs.YtiojnbhomjkkgaaGreatDoor

namespace Go.Proofs.YtiojnbhomjkkgaaGreatDoor

theorem qtA_room : ∀ (f : Nat) (l acc : List UInt8) (i : Nat), (qtA f l acc i).2.2 = 0 → i + 1 ≤ (qtA f l acc i).2.1 ∧ (qtA f l acc i).2.1 ≤ i + l.length := by
  intro f
  induction f with
  | zero => intro l acc i h; simp [qtA] at h
  | succ f ih =>
    intro l acc i h
    cases l with
    | nil => simp [qtA] at h
    | cons c r =>
      by_cases h34 : c.toNat = 34
      · simp only [qtA]; rw [if_pos h34]; simp
      · by_cases h10 : c.toNat = 10
        · simp only [qtA] at h; rw [if_neg h34, if_pos h10] at h; simp at h
        · by_cases h92 : c.toNat = 92
          · simp only [qtA] at h ⊢; rw [if_neg h34, if_neg h10, if_pos h92] at h ⊢
            by_cases he : (esc r).2.2 ≠ 0
            · rw [if_pos he] at h; exact absurd h he
            · rw [if_neg he] at h ⊢
              have := ih _ _ _ h
              have hr : (esc r).2.1 ≤ r.length := by
                cases r with
                | nil => simp [esc]
                | cons a r =>
                  simp only [esc]
                  repeat' (split; · simp)
                  cases r with
                  | nil => simp [hx2]
                  | cons b r =>
                    simp only [hx2]
                    repeat' (split; · simp)
                    cases r with
                    | nil => simp [hx2]
                    | cons c r => simp only [hx2]; repeat' (split; · simp)
                                  simp
              simp only [List.length_drop, List.length_cons] at this ⊢
              omega
          · simp only [qtA] at h ⊢; rw [if_neg h34, if_neg h10, if_neg h92] at h ⊢
            have := ih _ _ _ h
            simp only [List.length_cons]
            omega

theorem runB_pos (p : Int → Bool) (l : List UInt8) (h : l ≠ []) (hp : p (l.headD 0).toNat = true) : 1 ≤ runB p l := by
  cases l with
  | nil => exact absurd rfl h
  | cons c r => rw [runB_cons, if_pos (by simpa using hp)]; omega

theorem name_first (c : Int) (h : letterB c = true ∨ c = 95 ∨ c = 35) : nameB c = true := by
  unfold nameB wordB
  rcases h with h | h | h
  · simp [h]
  · simp [h]
  · subst h; decide
theorem signN_room (l : List UInt8) (h : l ≠ []) : signN l ≤ l.length := by
  unfold signN
  split
  · rename_i h2
    simp only [pairsL, List.any_cons, List.any_nil, Bool.or_false, Bool.or_eq_true] at h2
    rcases h2 with h2 | h2 | h2 | h2 | h2 | h2 | h2 | h2 <;> exact Lib.hasPrefix_le h2
  · split
    · have := List.length_pos_iff.2 h; omega
    · omega

theorem nextT_room (l : List UInt8) (h : l ≠ []) (he : (nextT l).2.2 = 0) : 1 ≤ (nextT l).2.1 ∧ (nextT l).2.1 ≤ l.length := by
  have hlen := List.length_pos_iff.2 h
  have hsg : ∀ q, (if signN l > 0 then ((⟨4, l.take (signN l), 0, 0, 0⟩ : Tok), signN l, (0 : Int)) else (⟨0, [], 0, 0, 0⟩, 0, 20)) = q → q.2.2 = 0 → 1 ≤ q.2.1 ∧ q.2.1 ≤ l.length := by
    rintro q rfl hq
    split at hq
    · rename_i h0; rw [if_pos h0]; exact ⟨h0, signN_room l h⟩
    · simp at hq
  unfold nextT at he ⊢
  simp only at he ⊢
  by_cases c1 : letterB (l.headD 0).toNat = true ∨ ((l.headD 0).toNat : Int) = 95 ∨ ((l.headD 0).toNat : Int) = 35
  · rw [if_pos c1] at he ⊢
    have hr := runB_le nameB l
    have hp : 1 ≤ runB nameB l := runB_pos nameB l h (name_first _ c1)
    by_cases c2 : runB nameB l = l.length ∨ (l.getD (runB nameB l) 0).toNat ≠ 58
    · rw [if_pos c2]; exact ⟨hp, hr⟩
    · rw [if_neg c2] at he ⊢
      have c2' : runB nameB l ≠ l.length := fun e => c2 (.inl e)
      by_cases c3 : allB wordB (l.take (runB nameB l)) = true
      · rw [if_pos c3]; simp only; omega
      · rw [if_neg c3] at he; simp at he
  · rw [if_neg c1] at he ⊢
    by_cases c2 : digitB (l.headD 0).toNat = true
    · rw [if_pos c2] at he ⊢
      exact ⟨runB_pos wordB l h (by unfold wordB; simp only [c2]; simp), runB_le wordB l⟩
    · rw [if_neg c2] at he ⊢
      by_cases c3 : ((l.headD 0).toNat : Int) = 34
      · rw [if_pos c3] at he ⊢
        have := qtA_room _ _ _ _ he
        simp only [List.length_drop] at this ⊢
        omega
      · rw [if_neg c3] at he ⊢
        by_cases c4 : ((l.headD 0).toNat : Int) = 38 ∧ 1 < l.length ∧ (letterB (l.getD 1 0).toNat = true ∨ (l.getD 1 0).toNat = 95)
        · rw [if_pos c4] at he ⊢
          have := runB_le wordB (l.drop 1)
          simp only [List.length_drop] at this ⊢
          omega
        · rw [if_neg c4] at he ⊢
          by_cases c5 : ((l.headD 0).toNat : Int) = 47
          · rw [if_pos c5] at he ⊢
            by_cases c6 : runB smallB (l.drop 1) > 0 ∧ runB smallB (l.drop 1) + 1 < l.length ∧ (l.getD (runB smallB (l.drop 1) + 1) 0).toNat = 47
            · rw [if_pos c6]; simp only; omega
            · rw [if_neg c6] at he ⊢; exact hsg _ rfl he
          · rw [if_neg c5] at he ⊢; exact hsg _ rfl he
end Go.Proofs.YtiojnbhomjkkgaaGreatDoor

namespace Go.Proofs.YtiojnbhomjkkgaaGreatDoor

theorem digitsT_acc (base : Nat) (cap : Bool) : ∀ (f n : Nat) (acc : List UInt8), digitsT base cap f n acc = digitsT base cap f n [] ++ acc := by
  intro f
  induction f with
  | zero => intro n acc; simp [digitsT]
  | succ f ih =>
    intro n acc
    simp only [digitsT]
    split
    · simp
    · rw [ih (n / base) (digCh cap (n % base) :: acc), ih (n / base) [digCh cap (n % base)]]; simp
theorem digitsT_fuel (base : Nat) (cap : Bool) (hb : 2 ≤ base) : ∀ (f g n : Nat) (acc : List UInt8), n ≤ f → n ≤ g → digitsT base cap f n acc = digitsT base cap g n acc := by
  intro f
  induction f with
  | zero =>
    intro g n acc h _
    obtain rfl : n = 0 := by omega
    cases g <;> simp [digitsT]
  | succ f ih =>
    intro g n acc h h'
    cases g with
    | zero => obtain rfl : n = 0 := by omega
              simp [digitsT]
    | succ g =>
      simp only [digitsT]
      split
      · rfl
      · rename_i hn
        have : n / base < n := Nat.div_lt_self (by omega) (by omega)
        exact ih g _ _ (by omega) (by omega)
theorem basedT_small (base : Nat) (cap : Bool) (n : Nat) (h : n < base) : basedT base cap n = [digCh cap n] := by
  unfold basedT; rw [Nat.div_eq_of_lt h, Nat.mod_eq_of_lt h]; rfl
theorem basedT_great (base : Nat) (cap : Bool) (hb : 2 ≤ base) (n : Nat) (h : base ≤ n) : basedT base cap n = basedT base cap (n / base) ++ [digCh cap (n % base)] := by
  have hq : 1 ≤ n / base := (Nat.one_le_div_iff (by omega)).2 h
  obtain ⟨q, hq'⟩ : ∃ q, n / base = q := ⟨_, rfl⟩
  unfold basedT
  rw [hq'] at hq ⊢
  obtain ⟨p, rfl⟩ : ∃ p, q = p + 1 := ⟨q - 1, by omega⟩
  rw [digitsT_acc, digitsT.eq_2]
  rw [if_neg (by omega)]
  congr 1
  have : (p + 1) / base < p + 1 := Nat.div_lt_self (by omega) (by omega)
  exact digitsT_fuel base cap hb _ _ _ _ (by omega) (by omega)
theorem digCh_hex (cap : Bool) (d : Nat) (h : d < 16) : hexV (digCh cap d).toNat = d := by
  have : ∀ (c : Bool) (x : Fin 16), hexV (digCh c x).toNat = ((x.val : Nat) : Int) := by decide +kernel
  exact this cap ⟨d, h⟩
theorem digCh_word (cap : Bool) (d : Nat) (h : d < 16) : wordB (digCh cap d).toNat = true := by
  have : ∀ (c : Bool) (x : Fin 16), wordB (digCh c x).toNat = true := by decide +kernel
  exact this cap ⟨d, h⟩
theorem digCh_dec (d : Nat) (h : d < 10) : digitB (digCh false d).toNat = true ∧ (d ≠ 0 → (digCh false d).toNat ≠ 48) ∧ (digCh false d).toNat ≠ 120 := by
  have : ∀ (x : Fin 10), digitB (digCh false x).toNat = true ∧ (x.val ≠ 0 → (digCh false x).toNat ≠ 48) ∧ (digCh false x).toNat ≠ 120 := by decide +kernel
  exact this ⟨d, h⟩
theorem numFold_snoc (base : Int) (x : UInt8) : ∀ (l : List UInt8) (n : Int), numFold base (l ++ [x]) n = (numFold base l n).bind fun m => numFold base [x] m := by
  intro l
  induction l with
  | nil => intro n; rfl
  | cons c l ih =>
    intro n
    simp only [List.cons_append, numFold]
    split
    · rfl
    · exact ih _

theorem numFold_based (base : Nat) (cap : Bool) (hb : base = 8 ∨ base = 10 ∨ base = 16) : ∀ (k n : Nat), n ≤ k → numFold base (basedT base cap n) 0 = some (min (n : Int) 4294967296) := by
  intro k
  induction k with
  | zero =>
    intro n h
    obtain rfl : n = 0 := by omega
    rw [basedT_small base cap 0 (by omega)]
    simp only [numFold]
    rw [digCh_hex cap 0 (by omega), if_neg (by omega)]
    simp
  | succ k ih =>
    intro n h
    rcases Nat.lt_or_ge n base with hlt | hge
    · rw [basedT_small base cap n hlt]
      simp only [numFold]
      rw [digCh_hex cap n (by omega), if_neg (by omega)]
      simp
    · have hlt2 : n / base < n := Nat.div_lt_self (by omega) (by omega)
      have hm : n % base < base := Nat.mod_lt _ (by omega)
      have hd := Nat.div_add_mod n base
      rw [basedT_great base cap (by omega) n hge, numFold_snoc, ih (n / base) (by omega)]
      simp only [Option.bind_some, numFold]
      rw [digCh_hex cap (n % base) (by omega), if_neg (by omega)]
      congr 1
      rcases hb with rfl | rfl | rfl <;> omega

theorem basedT_all (base : Nat) (cap : Bool) (hb : 2 ≤ base) (hb2 : base ≤ 16) (p : UInt8 → Prop) (hp : ∀ d, d < base → p (digCh cap d)) : ∀ (k n : Nat), n ≤ k → ∀ x ∈ basedT base cap n, p x := by
  intro k
  induction k with
  | zero =>
    intro n h x hx
    obtain rfl : n = 0 := by omega
    rw [basedT_small base cap 0 (by omega)] at hx
    simp at hx; subst hx; exact hp 0 (by omega)
  | succ k ih =>
    intro n h x hx
    rcases Nat.lt_or_ge n base with hlt | hge
    · rw [basedT_small base cap n hlt] at hx
      simp at hx; subst hx; exact hp n hlt
    · have hlt2 : n / base < n := Nat.div_lt_self (by omega) (by omega)
      rw [basedT_great base cap hb n hge] at hx
      rcases List.mem_append.1 hx with hx | hx
      · exact ih _ (by omega) x hx
      · simp at hx; subst hx; exact hp _ (Nat.mod_lt _ (by omega))
theorem basedT_len (base : Nat) (cap : Bool) (hb : 2 ≤ base) : ∀ (k n : Nat), n < 2 ^ k → (basedT base cap n).length ≤ k + 1 := by
  intro k
  induction k with
  | zero => intro n h; obtain rfl : n = 0 := by omega
            rw [basedT_small base cap 0 (by omega)]; simp
  | succ k ih =>
    intro n h
    rcases Nat.lt_or_ge n base with hlt | hge
    · rw [basedT_small base cap n hlt]; simp
    · rw [basedT_great base cap hb n hge]
      have : n / base ≤ n / 2 := Nat.div_le_div_left hb (by omega)
      have := ih (n / base) (by rw [Nat.pow_succ] at h; omega)
      simp; omega
theorem basedT_ne (base : Nat) (cap : Bool) (hb : 2 ≤ base) (n : Nat) : basedT base cap n ≠ [] := by
  rcases Nat.lt_or_ge n base with hlt | hge
  · rw [basedT_small base cap n hlt]; simp
  · rw [basedT_great base cap hb n hge]; simp
/-- The first digit of a number in decimal is 0 only for 0. -/
theorem basedT_head : ∀ (k n : Nat), n ≤ k → n ≠ 0 → ((basedT 10 false n).headD 0).toNat ≠ 48 := by
  intro k
  induction k with
  | zero => intro n h h0; omega
  | succ k ih =>
    intro n h h0
    rcases Nat.lt_or_ge n 10 with hlt | hge
    · rw [basedT_small 10 false n hlt]; exact (digCh_dec n hlt).2.1 h0
    · rw [basedT_great 10 false (by omega) n hge]
      have := ih (n / 10) (by omega) (by omega)
      have hne := basedT_ne 10 false (by omega) (n / 10)
      cases hb : basedT 10 false (n / 10) with
      | nil => exact absurd hb hne
      | cons a l => rw [hb] at this; simpa using this

theorem runB_all (p : Int → Bool) : ∀ l : List UInt8, (∀ x ∈ l, p x.toNat = true) → runB p l = l.length := by
  intro l
  induction l with
  | nil => intro _; rfl
  | cons c l ih => intro h; rw [runB_cons, if_pos (h c (by simp)), ih (fun x hx => h x (by simp [hx]))]; rfl

theorem blk_begin {f : Nat} {c : UInt8} {r : List UInt8} (h : sepB c.toNat = false) (h2 : c.toNat ≠ 47) : blk f (c :: r) = (0, false) := by
  have hc : (47 : UInt8) ≠ c := by rintro rfl; exact h2 rfl
  cases f with
  | zero => rfl
  | succ f =>
    simp only [blk]
    rw [if_neg (by simp [h]), if_neg (by simp [Lib.hasPrefix, hc]), if_neg (by simp [Lib.hasPrefix, hc])]
theorem blk_nil (f : Nat) : blk f [] = (0, false) := by cases f <;> rfl

theorem digit_no (c : Int) (h : digitB c = true) : sepB c = false ∧ c ≠ 47 ∧ ¬ (letterB c = true ∨ c = 95 ∨ c = 35) := by
  unfold digitB at h
  simp only [decide_eq_true_eq] at h
  refine ⟨?_, by omega, ?_⟩
  · unfold sepB memB; simp; omega
  · rintro (h' | h' | h')
    · unfold letterB at h'; simp at h'; omega
    · omega
    · omega

/-- A number alone, from a place on. -/
theorem rdA_number (file : Int) (f : Nat) (l : List UInt8) (p : Int × Int) (hl : l ≠ []) (hw : ∀ x ∈ l, wordB x.toNat = true) (hd : digitB (l.headD 0).toNat = true) :
    rdA file (f + 2) l p [] = if (numT l).2 ≠ 0 then ([], (file, p.1, p.2), (numT l).2) else ([⟨2, [], (numT l).1, p.1, p.2⟩, ⟨8, [], 0, (adv l p).1, (adv l p).2⟩], (0, 0, 0), 0) := by
  obtain ⟨h1, h2, h3⟩ := digit_no _ hd
  have hb : blk l.length l = (0, false) := by
    cases l with
    | nil => exact absurd rfl hl
    | cons c r => exact blk_begin (by simpa using h1) (by simp at h2; omega)
  have hn : nextT l = (⟨2, [], (numT l).1, 0, 0⟩, l.length, (numT l).2) := by
    unfold nextT; simp only []; rw [if_neg h3, if_pos hd, runB_all wordB l hw, List.take_length]
  rw [rdA]
  simp only [hb, List.drop_zero, List.take_zero, adv]
  rw [if_neg (by simp), if_neg (by simp), if_neg hl, hn]
  simp only []
  by_cases he : (numT l).2 = 0
  · rw [if_neg (by simp [he]), if_neg (by simp [he])]
    rw [List.drop_length, List.take_length, rdA]
    simp only [List.length_nil, blk_nil, List.drop_nil, List.take_nil, adv]
    simp
  · rw [if_pos he, if_pos he]

theorem readT_number (file : Int) (l : List UInt8) (hl : l ≠ []) (hlen : l.length ≤ 16000) (hw : ∀ x ∈ l, wordB x.toNat = true) (hd : digitB (l.headD 0).toNat = true) :
    readT l file = if (numT l).2 ≠ 0 then ([], (file, 1, 1), (numT l).2) else ([⟨2, [], (numT l).1, 1, 1⟩, ⟨8, [], 0, (adv l (1, 1)).1, (adv l (1, 1)).2⟩], (0, 0, 0), 0) := by
  unfold readT
  have := List.length_pos_iff.2 hl
  rw [if_neg (by omega), show l.length + 1 = (l.length - 1) + 2 from by omega, rdA_number file _ l (1, 1) hl hw hd]

theorem numT_dec (n : Nat) : numT (basedT 10 false n) = numR (some (min (n : Int) 4294967296)) := by
  have hne := basedT_ne 10 false (by omega) n
  have hp : numParts (basedT 10 false n) = (10, basedT 10 false n) := by
    unfold numParts
    have hx : Lib.hasPrefix (basedT 10 false n) [48, 120] = false := by
      have hall := basedT_all 10 false (by omega) (by omega) (fun x => x.toNat ≠ 120) (fun d hd => (digCh_dec d hd).2.2) n n (Nat.le_refl _)
      cases hb : basedT 10 false n with
      | nil => rfl
      | cons a l =>
        cases l with
        | nil => simp [Lib.hasPrefix, List.isPrefixOf]
        | cons b l =>
          rw [hb] at hall
          have := hall b (by simp)
          have hb' : (120 : UInt8) ≠ b := by rintro rfl; exact this rfl
          simp [Lib.hasPrefix, List.isPrefixOf, hb']
    rw [if_neg (by simp [hx]), if_neg]
    rintro ⟨h1, h2⟩
    by_cases h0 : n = 0
    · subst h0; rw [basedT_small 10 false 0 (by omega)] at h1; simp at h1
    · exact basedT_head n n (Nat.le_refl _) h0 (by rw [h2]; rfl)
  unfold numT
  rw [hp]
  simp only []
  rw [if_neg hne]
  have := numFold_based 10 false (by omega) n n (Nat.le_refl _)
  rw [← this]; rfl
theorem numT_oct (n : Nat) : numT (48 :: basedT 8 false n) = numR (some (min (n : Int) 4294967296)) := by
  have hne := basedT_ne 8 false (by omega) n
  have hp : numParts (48 :: basedT 8 false n) = (8, basedT 8 false n) := by
    unfold numParts
    have hall := basedT_all 8 false (by omega) (by omega) (fun x => x.toNat ≠ 120) (fun d hd => (digCh_dec d (by omega)).2.2) n n (Nat.le_refl _)
    cases hb : basedT 8 false n with
    | nil => exact absurd hb hne
    | cons b l =>
      rw [hb] at hall
      have := hall b (by simp)
      have hb' : (120 : UInt8) ≠ b := by rintro rfl; exact this rfl
      simp [Lib.hasPrefix, hb']
  unfold numT
  rw [hp]
  simp only []
  rw [if_neg hne]
  have := numFold_based 8 false (by omega) n n (Nat.le_refl _)
  rw [← this]; rfl
theorem numT_hex (n : Nat) (cap : Bool) : numT (48 :: 120 :: basedT 16 cap n) = numR (some (min (n : Int) 4294967296)) := by
  have hne := basedT_ne 16 cap (by omega) n
  have hp : numParts (48 :: 120 :: basedT 16 cap n) = (16, basedT 16 cap n) := by
    unfold numParts
    simp [Lib.hasPrefix]
  unfold numT
  rw [hp]
  simp only []
  rw [if_neg hne]
  have := numFold_based 16 cap (by omega) n n (Nat.le_refl _)
  rw [← this]; rfl
end Go.Proofs.YtiojnbhomjkkgaaGreatDoor

namespace Go.Proofs.YtiojnbhomjkkgaaGreatDoor

theorem blk_fuel : ∀ (f : Nat) (l : List UInt8), l.length ≤ f → blk f l = blk l.length l := by
  have key : ∀ (n : Nat) (l : List UInt8), l.length ≤ n → ∀ f g, l.length ≤ f → l.length ≤ g → blk f l = blk g l := by
    intro n
    induction n with
    | zero =>
      intro l hl f g hf hg
      have : l = [] := List.length_eq_zero_iff.1 (by omega)
      subst this
      cases f <;> cases g <;> simp [blk]
    | succ n ih =>
      intro l hl f g hf hg
      cases l with
      | nil => cases f <;> cases g <;> simp [blk]
      | cons c r =>
        simp only [List.length_cons] at hl hf hg
        obtain ⟨f, rfl⟩ : ∃ f', f = f' + 1 := ⟨f - 1, by omega⟩
        obtain ⟨g, rfl⟩ : ∃ f', g = f' + 1 := ⟨g - 1, by omega⟩
        simp only [blk]
        by_cases h1 : sepB c.toNat = true
        · rw [if_pos h1, if_pos h1, ih r (by omega) f g (by omega) (by omega)]
        · rw [if_neg h1, if_neg h1]
          by_cases h2 : Lib.hasPrefix (c :: r) [47, 47] = true
          · rw [if_pos h2, if_pos h2]
            have hp := Lib.hasPrefix_le h2
            have hk : 1 ≤ runB notNlB (c :: r) := by
              rw [runB_cons]
              have : notNlB c.toNat = true := by
                have h3 : c = 47 := by simp [Lib.hasPrefix] at h2; exact h2.1.symm
                subst h3; decide
              rw [if_pos this]; omega
            rw [ih ((c :: r).drop (runB notNlB (c :: r))) (by simp; omega) f g (by simp; omega) (by simp; omega)]
          · rw [if_neg h2, if_neg h2]
            by_cases h3 : Lib.hasPrefix (c :: r) [47, 42] = true
            · rw [if_pos h3, if_pos h3]
              by_cases h4 : Lib.index ((c :: r).drop 2) [42, 47] < 0
              · rw [if_pos h4, if_pos h4]
              · rw [if_neg h4, if_neg h4]
                rw [ih ((c :: r).drop ((Lib.index ((c :: r).drop 2) [42, 47]).toNat + 4)) (by simp; omega) f g (by simp; omega) (by simp; omega)]
            · rw [if_neg h3, if_neg h3]
  intro f l h
  exact key l.length l (Nat.le_refl _) f l.length h (Nat.le_refl _)

def blanksL : List (List UInt8) := [[32], [10], [9], [47, 47, 32, 110, 111, 116, 101, 10], [47, 42, 32, 97, 10, 42, 32, 98, 32, 42, 47], [13, 10]]
def gapsL : List (List UInt8) := [[32], [10], [9, 32], [32, 47, 47, 32, 110, 111, 116, 101, 32, 42, 32, 47, 10], [32, 47, 42, 32, 97, 32, 42, 47, 32], [13, 10, 10], [32, 47, 42, 42, 47, 32]]
def tokL : List (List UInt8 × Tok) := [
  ([97], ⟨1, [97], 0, 0, 0⟩),
  ([110, 111, 100, 101, 64, 49], ⟨1, [110, 111, 100, 101, 64, 49], 0, 0, 0⟩),
  ([35, 99, 101, 108, 108, 115], ⟨1, [35, 99, 101, 108, 108, 115], 0, 0, 0⟩),
  ([99, 111, 109, 112, 97, 116, 105, 98, 108, 101], ⟨1, [99, 111, 109, 112, 97, 116, 105, 98, 108, 101], 0, 0, 0⟩),
  ([120, 58], ⟨5, [120], 0, 0, 0⟩),
  ([108, 97, 98, 95, 49, 58], ⟨5, [108, 97, 98, 95, 49], 0, 0, 0⟩),
  ([38, 97], ⟨6, [97], 0, 0, 0⟩),
  ([38, 108, 97, 98, 95, 49], ⟨6, [108, 97, 98, 95, 49], 0, 0, 0⟩),
  ([48], ⟨2, [], 0, 0, 0⟩),
  ([55], ⟨2, [], 7, 0, 0⟩),
  ([48, 49, 48], ⟨2, [], 8, 0, 0⟩),
  ([48, 120, 49, 102], ⟨2, [], 31, 0, 0⟩),
  ([48, 120, 70, 70, 70, 70, 70, 70, 70, 70], ⟨2, [], 4294967295, 0, 0⟩),
  ([52, 50, 57, 52, 57, 54, 55, 50, 57, 53], ⟨2, [], 4294967295, 0, 0⟩),
  ([34, 116, 101, 120, 116, 34], ⟨3, [116, 101, 120, 116], 0, 0, 0⟩),
  ([34, 97, 92, 110, 92, 120, 52, 49, 92, 34, 34], ⟨3, [97, 10, 65, 34], 0, 0, 0⟩),
  ([47, 105, 110, 99, 108, 117, 100, 101, 47], ⟨7, [105, 110, 99, 108, 117, 100, 101], 0, 0, 0⟩),
  ([47, 100, 101, 108, 101, 116, 101, 45, 110, 111, 100, 101, 47], ⟨7, [100, 101, 108, 101, 116, 101, 45, 110, 111, 100, 101], 0, 0, 0⟩),
  ([47], ⟨4, [47], 0, 0, 0⟩),
  ([123], ⟨4, [123], 0, 0, 0⟩),
  ([125], ⟨4, [125], 0, 0, 0⟩),
  ([40], ⟨4, [40], 0, 0, 0⟩),
  ([41], ⟨4, [41], 0, 0, 0⟩),
  ([60], ⟨4, [60], 0, 0, 0⟩),
  ([62], ⟨4, [62], 0, 0, 0⟩),
  ([91], ⟨4, [91], 0, 0, 0⟩),
  ([93], ⟨4, [93], 0, 0, 0⟩),
  ([59], ⟨4, [59], 0, 0, 0⟩),
  ([61], ⟨4, [61], 0, 0, 0⟩),
  ([44], ⟨4, [44], 0, 0, 0⟩),
  ([43], ⟨4, [43], 0, 0, 0⟩),
  ([45], ⟨4, [45], 0, 0, 0⟩),
  ([42], ⟨4, [42], 0, 0, 0⟩),
  ([37], ⟨4, [37], 0, 0, 0⟩),
  ([60, 60], ⟨4, [60, 60], 0, 0, 0⟩),
  ([62, 62], ⟨4, [62, 62], 0, 0, 0⟩),
  ([60, 61], ⟨4, [60, 61], 0, 0, 0⟩),
  ([62, 61], ⟨4, [62, 61], 0, 0, 0⟩),
  ([61, 61], ⟨4, [61, 61], 0, 0, 0⟩),
  ([33, 61], ⟨4, [33, 61], 0, 0, 0⟩),
  ([38, 38], ⟨4, [38, 38], 0, 0, 0⟩),
  ([124, 124], ⟨4, [124, 124], 0, 0, 0⟩),
  ([94], ⟨4, [94], 0, 0, 0⟩),
  ([126], ⟨4, [126], 0, 0, 0⟩),
  ([33], ⟨4, [33], 0, 0, 0⟩),
  ([63], ⟨4, [63], 0, 0, 0⟩),
  ([58], ⟨4, [58], 0, 0, 0⟩),
  ([124], ⟨4, [124], 0, 0, 0⟩),
  ([38], ⟨4, [38], 0, 0, 0⟩)]
/-- The first byte of what separates. -/
def gapC (c : UInt8) : Prop := c = 32 ∨ c = 10 ∨ c = 9 ∨ c = 13
theorem tok_next (r : List UInt8) (c : UInt8) (hc : gapC c) : ∀ x ∈ tokL, nextT (x.1 ++ c :: r) = (x.2, x.1.length, 0) := by
  intro x hx
  simp only [tokL, List.mem_cons, List.not_mem_nil, or_false] at hx
  rcases hc with rfl | rfl | rfl | rfl <;> rcases hx with rfl | rfl | rfl | rfl | rfl | rfl | rfl | rfl | rfl | rfl | rfl | rfl | rfl | rfl | rfl | rfl | rfl | rfl | rfl | rfl | rfl | rfl | rfl | rfl | rfl | rfl | rfl | rfl | rfl | rfl | rfl | rfl | rfl | rfl | rfl | rfl | rfl | rfl | rfl | rfl | rfl | rfl | rfl | rfl | rfl | rfl | rfl | rfl | rfl <;> kernel_rfl
theorem tok_blk (n : Nat) (r : List UInt8) (c : UInt8) (hc : gapC c) : ∀ x ∈ tokL, blk (n + 1) (x.1 ++ c :: r) = (0, false) := by
  intro x hx
  simp only [tokL, List.mem_cons, List.not_mem_nil, or_false] at hx
  rcases hc with rfl | rfl | rfl | rfl <;> rcases hx with rfl | rfl | rfl | rfl | rfl | rfl | rfl | rfl | rfl | rfl | rfl | rfl | rfl | rfl | rfl | rfl | rfl | rfl | rfl | rfl | rfl | rfl | rfl | rfl | rfl | rfl | rfl | rfl | rfl | rfl | rfl | rfl | rfl | rfl | rfl | rfl | rfl | rfl | rfl | rfl | rfl | rfl | rfl | rfl | rfl | rfl | rfl | rfl | rfl <;> kernel_rfl
theorem tok_pos : ∀ x ∈ tokL, 1 ≤ x.1.length := by decide

theorem blk_sep1 (n : Nat) (c : UInt8) (r : List UInt8) (hc : gapC c) : blk (n + 1) (c :: r) = ((blk n r).1 + 1, (blk n r).2) := by
  rcases hc with rfl | rfl | rfl | rfl <;> kernel_rfl
theorem blk_w1 (n : Nat) (r : List UInt8) : blk (n + 2) ([47, 47, 32, 110, 111, 116, 101, 10] ++ r) = ((blk n r).1 + 1 + 7, (blk n r).2) := by kernel_rfl
theorem blk_w2 (n : Nat) (r : List UInt8) : blk (n + 1) ([47, 42, 32, 97, 10, 42, 32, 98, 32, 42, 47] ++ r) = ((blk n r).1 + 11, (blk n r).2) := by kernel_rfl
theorem blk_w3 (n : Nat) (r : List UInt8) : blk (n + 2) ([47, 47, 32, 110, 111, 116, 101, 32, 42, 32, 47, 10] ++ r) = ((blk n r).1 + 1 + 11, (blk n r).2) := by kernel_rfl
theorem blk_w4 (n : Nat) (r : List UInt8) : blk (n + 1) ([47, 42, 32, 97, 32, 42, 47] ++ r) = ((blk n r).1 + 7, (blk n r).2) := by kernel_rfl
theorem blk_w5 (n : Nat) (r : List UInt8) : blk (n + 1) ([47, 42, 42, 47] ++ r) = ((blk n r).1 + 4, (blk n r).2) := by kernel_rfl
/-- Bytes that only separate. -/
def White (x : List UInt8) : Prop := ∀ r, blk (x ++ r).length (x ++ r) = (x.length + (blk r.length r).1, (blk r.length r).2)
theorem White.append {x y : List UInt8} (hx : White x) (hy : White y) : White (x ++ y) := by
  intro r
  rw [List.append_assoc, hx, hy]
  simp only [List.length_append]
  rw [Nat.add_assoc]
theorem White.one {c : UInt8} (hc : gapC c) : White [c] := by
  intro r
  rw [show ([c] ++ r) = c :: r from rfl, List.length_cons, blk_sep1 _ _ _ hc]
  simp; omega
theorem White.of {x : List UInt8} (k m : Nat) (hl : x.length = m) (h : ∀ n r, blk (n + k) (x ++ r) = ((blk n r).1 + m, (blk n r).2)) : White x := by
  intro r
  rw [← blk_fuel ((x ++ r).length + k) (x ++ r) (by omega), h, blk_fuel _ r (by simp), hl]
  simp; omega
theorem White.nil : White [] := by intro r; simp
theorem white_note1 : White [47, 47, 32, 110, 111, 116, 101, 10] := White.of 2 8 rfl (fun n r => blk_w1 n r)
theorem white_note2 : White [47, 42, 32, 97, 10, 42, 32, 98, 32, 42, 47] := White.of 1 11 rfl (fun n r => blk_w2 n r)
theorem white_note3 : White [47, 47, 32, 110, 111, 116, 101, 32, 42, 32, 47, 10] := White.of 2 12 rfl (fun n r => blk_w3 n r)
theorem white_note4 : White [47, 42, 32, 97, 32, 42, 47] := White.of 1 7 rfl (fun n r => blk_w4 n r)
theorem white_note5 : White [47, 42, 42, 47] := White.of 1 4 rfl (fun n r => blk_w5 n r)
theorem g32 : gapC 32 := .inl rfl
theorem g10 : gapC 10 := .inr (.inl rfl)
theorem g9 : gapC 9 := .inr (.inr (.inl rfl))
theorem g13 : gapC 13 := .inr (.inr (.inr rfl))
theorem white_blanks : ∀ x ∈ blanksL, White x := by
  intro x hx
  simp only [blanksL, List.mem_cons, List.not_mem_nil, or_false] at hx
  rcases hx with rfl | rfl | rfl | rfl | rfl | rfl
  · exact .one g32
  · exact .one g10
  · exact .one g9
  · exact white_note1
  · exact white_note2
  · exact (White.one g13).append (.one g10)
theorem white_gaps : ∀ x ∈ gapsL, White x := by
  intro x hx
  simp only [gapsL, List.mem_cons, List.not_mem_nil, or_false] at hx
  rcases hx with rfl | rfl | rfl | rfl | rfl | rfl | rfl
  · exact .one g32
  · exact .one g10
  · exact (White.one g9).append (.one g32)
  · exact (White.one g32).append white_note3
  · exact ((White.one g32).append white_note4).append (.one g32)
  · exact ((White.one g13).append (.one g10)).append (.one g10)
  · exact ((White.one g32).append white_note5).append (.one g32)
theorem gaps_head : ∀ x ∈ gapsL, ∃ c r, x = c :: r ∧ gapC c := by
  intro x hx
  simp only [gapsL, List.mem_cons, List.not_mem_nil, or_false] at hx
  rcases hx with rfl | rfl | rfl | rfl | rfl | rfl | rfl
  · exact ⟨_, _, rfl, g32⟩
  · exact ⟨_, _, rfl, g10⟩
  · exact ⟨_, _, rfl, g9⟩
  · exact ⟨_, _, rfl, g32⟩
  · exact ⟨_, _, rfl, g32⟩
  · exact ⟨_, _, rfl, g13⟩
  · exact ⟨_, _, rfl, g32⟩

theorem rdA_white {x : List UInt8} (hx : White x) (file : Int) (f : Nat) (r : List UInt8) (p : Int × Int) (acc : List Tok) :
    rdA file (f + 1) (x ++ r) p acc = rdA file (f + 1) r (adv x p) acc := by
  have ht : (x ++ r).take (x.length + (blk r.length r).1) = x ++ r.take (blk r.length r).1 := by rw [List.take_append, List.take_of_length_le (by omega)]; simp
  have hd : (x ++ r).drop (x.length + (blk r.length r).1) = r.drop (blk r.length r).1 := by rw [List.drop_append]; simp
  simp only [rdA, hx r, ht, hd, adv_append]

/-- What a token says but for its place. -/
def bare (t : Tok) : Int × List UInt8 × Int := (t.kind, t.text, t.value)
def sayL (x : List UInt8) : Option (Int × List UInt8 × Int) := (tokL.lookup x).map bare
theorem say_blank : ∀ x ∈ blanksL, sayL x = none := by decide
theorem say_tok : ∀ x ∈ tokL, sayL x.1 = some (bare x.2) := by decide

theorem rdA_pairs (file : Int) : ∀ (l : List (List UInt8 × List UInt8)) (f : Nat) (p : Int × Int) (acc : List Tok),
    (∀ x ∈ l, (x.1 ∈ blanksL ∨ x.1 ∈ tokL.map Prod.fst) ∧ x.2 ∈ gapsL) → l.length ≤ f → acc.length + l.length < 6000 →
    ∃ toks : List Tok, rdA file (f + 1) (l.flatMap fun x => x.1 ++ x.2) p acc = (acc ++ toks, (0, 0, 0), 0) ∧ toks.map bare = (l.map Prod.fst).filterMap sayL ++ [(8, [], 0)] := by
  intro l
  induction l with
  | nil =>
    intro f p acc _ _ hn
    refine ⟨[⟨8, [], 0, p.1, p.2⟩], ?_, rfl⟩
    simp only [List.flatMap_nil, rdA]
    simp only [List.length_nil, Nat.add_zero] at hn
    rw [show blk ([] : List UInt8).length [] = (0, false) from rfl]
    simp only [List.take_nil, List.drop_nil, adv]
    rw [if_neg (by simp), if_neg (by omega)]
    simp
  | cons x l ih =>
    intro f p acc hx hf hn
    obtain ⟨p1, g1⟩ := x
    have h1 := hx (p1, g1) (by simp)
    simp only at h1
    simp only [List.length_cons] at hf hn
    simp only [List.flatMap_cons, List.append_assoc]
    have hr : ∀ y ∈ l, (y.1 ∈ blanksL ∨ y.1 ∈ tokL.map Prod.fst) ∧ y.2 ∈ gapsL := fun y hy => hx y (by simp [hy])
    have hw := white_gaps g1 h1.2
    rcases h1.1 with hb | ht
    · rw [rdA_white (white_blanks p1 hb), rdA_white hw]
      obtain ⟨toks, e1, e2⟩ := ih f (adv g1 (adv p1 p)) acc hr (by omega) (by omega)
      refine ⟨toks, e1, ?_⟩
      simp only [List.map_cons, List.filterMap_cons, say_blank p1 hb]
      exact e2
    · obtain ⟨t, ht1, rfl⟩ := List.mem_map.1 ht
      obtain ⟨f, rfl⟩ : ∃ f', f = f' + 1 := ⟨f - 1, by omega⟩
      obtain ⟨c, g2, rfl, hc⟩ := gaps_head g1 h1.2
      have e0 := tok_next (g2 ++ l.flatMap fun x => x.1 ++ x.2) c hc t ht1
      have e1 : blk (t.1 ++ (c :: g2 ++ l.flatMap fun x => x.1 ++ x.2)).length (t.1 ++ (c :: g2 ++ l.flatMap fun x => x.1 ++ x.2)) = (0, false) := by
        rw [← blk_fuel ((t.1 ++ (c :: g2 ++ l.flatMap fun x => x.1 ++ x.2)).length + 1) _ (by omega)]
        exact tok_blk _ _ c hc t ht1
      have hp := tok_pos t ht1
      rw [rdA]
      simp only [e1, List.drop_zero, List.take_zero, adv]
      rw [if_neg (by simp), if_neg (by omega), if_neg (by intro e; have := congrArg List.length e; simp at this)]
      simp only [List.cons_append] at e0 ⊢
      rw [e0]
      simp only []
      rw [if_neg (by simp), List.drop_left, List.take_left]
      rw [show c :: (g2 ++ l.flatMap fun x => x.1 ++ x.2) = (c :: g2) ++ l.flatMap fun x => x.1 ++ x.2 from rfl, rdA_white hw]
      obtain ⟨toks, e2, e3⟩ := ih f (adv (c :: g2) (adv t.1 p)) (acc ++ [{ t.2 with line := p.1, col := p.2 }]) hr (by omega) (by simp; omega)
      refine ⟨{ t.2 with line := p.1, col := p.2 } :: toks, ?_, ?_⟩
      · rw [e2]; simp
      · simp only [List.map_cons, List.filterMap_cons, say_tok t ht1, e3]; rfl
def tokSame (a b : List Tok) : Prop := a.map bare = b.map bare
theorem pairs_len : ∀ (l : List (List UInt8 × List UInt8)), (∀ x ∈ l, (x.1 ∈ blanksL ∨ x.1 ∈ tokL.map Prod.fst) ∧ x.2 ∈ gapsL) → l.length ≤ (l.flatMap fun x => x.1 ++ x.2).length := by
  intro l
  induction l with
  | nil => intro _; simp
  | cons x l ih =>
    intro h
    have := ih (fun y hy => h y (by simp [hy]))
    obtain ⟨c, r, e, _⟩ := gaps_head _ (h x (by simp)).2
    simp only [List.flatMap_cons, List.length_cons, List.length_append, e]
    omega
theorem readT_pairs (file : Int) (l : List (List UInt8 × List UInt8)) (hl : ∀ x ∈ l, (x.1 ∈ blanksL ∨ x.1 ∈ tokL.map Prod.fst) ∧ x.2 ∈ gapsL) (hn : l.length < 6000)
    (hs : (l.flatMap fun x => x.1 ++ x.2).length ≤ 16000) : ∃ toks : List Tok, readT (l.flatMap fun x => x.1 ++ x.2) file = (toks, (0, 0, 0), 0) ∧ toks.map bare = (l.map Prod.fst).filterMap sayL ++ [(8, [], 0)] := by
  unfold readT
  rw [if_neg (by omega)]
  have := rdA_pairs file l _ (1, 1) [] hl (pairs_len l hl) (by simpa using hn)
  simpa using this
end Go.Proofs.YtiojnbhomjkkgaaGreatDoor

namespace Go.Proofs.YtiojnbhomjkkgaaGreatDoor

theorem runB_app (p : Int → Bool) (hp : p 10 = false) (b : List UInt8) : ∀ a : List UInt8, runB p (a ++ 10 :: b) = runB p a := by
  intro a
  induction a with
  | nil => rw [List.nil_append, runB_cons, if_neg (by rw [show (((10 : UInt8).toNat : Nat) : Int) = 10 from rfl, hp]; simp)]; rfl
  | cons c a ih => rw [List.cons_append, runB_cons, runB_cons, ih]
theorem pre_app (b : List UInt8) : ∀ (sub a : List UInt8), (∀ x ∈ sub, x ≠ 10) → Lib.hasPrefix (a ++ 10 :: b) sub = Lib.hasPrefix a sub := by
  intro sub
  induction sub with
  | nil => intro a _; simp [Lib.hasPrefix]
  | cons s sub ih =>
    intro a h
    have h1 : s ≠ 10 := h s (by simp)
    cases a with
    | nil => show ((s == 10) && sub.isPrefixOf b) = false; simp [h1]
    | cons c a =>
      have := ih a (fun x hx => h x (by simp [hx]))
      simp only [Lib.hasPrefix] at this
      show ((s == c) && sub.isPrefixOf (a ++ 10 :: b)) = ((s == c) && sub.isPrefixOf a)
      rw [this]
theorem idx_app (b sub : List UInt8) (hs : ∀ x ∈ sub, x ≠ 10) (hne : sub ≠ []) : ∀ a : List UInt8, 0 ≤ Lib.index a sub → Lib.index (a ++ 10 :: b) sub = Lib.index a sub := by
  intro a
  induction a with
  | nil => intro h; cases sub with
    | nil => exact absurd rfl hne
    | cons x l => simp [Lib.index] at h
  | cons c a ih =>
    intro h
    have hp := pre_app b sub (c :: a) hs
    simp only [Lib.hasPrefix, List.cons_append] at hp
    simp only [List.cons_append, Lib.index] at h ⊢
    rw [hp]
    by_cases h1 : sub.isPrefixOf (c :: a) = true
    · rw [if_pos h1, if_pos h1]
    · rw [if_neg h1] at h
      rw [if_neg h1, if_neg h1]
      by_cases h2 : (Lib.index a sub == -1) = true
      · rw [if_pos h2] at h; omega
      · have : 0 ≤ Lib.index a sub := by have := Lib.index_ge a sub; have : Lib.index a sub ≠ -1 := by simpa using h2
                                         omega
        rw [ih this]

theorem blk_app (b : List UInt8) : ∀ (f : Nat) (a : List UInt8), a.length ≤ f → (blk f a).2 = false → (blk f a).1 < a.length → ∀ g, (a ++ 10 :: b).length ≤ g → blk g (a ++ 10 :: b) = blk f a := by
  intro f
  induction f with
  | zero => intro a h1 h2 h3; simp only [Nat.le_zero] at h1; omega
  | succ f ih =>
    intro a h1 h2 h3 g hg
    cases a with
    | nil => simp at h3
    | cons c r =>
      simp only [List.cons_append, List.length_cons] at hg h1 h3 ⊢
      obtain ⟨g, rfl⟩ : ∃ f', g = f' + 1 := ⟨g - 1, by omega⟩
      have p1 := pre_app b [47, 47] (c :: r) (by decide)
      have p2 := pre_app b [47, 42] (c :: r) (by decide)
      have p3 := runB_app notNlB (by decide) b (c :: r)
      simp only [List.cons_append] at p1 p2 p3
      simp only [blk] at h2 h3 ⊢
      rw [p1, p2, p3]
      have hdrop : ∀ k, k ≤ r.length + 1 → (c :: (r ++ 10 :: b)).drop k = (c :: r).drop k ++ 10 :: b := by
        intro k hk
        rw [show c :: (r ++ 10 :: b) = (c :: r) ++ 10 :: b from rfl, List.drop_append_of_le_length (by simpa using hk)]
      by_cases k1 : sepB c.toNat = true
      · rw [if_pos k1] at h2 h3 ⊢
        rw [if_pos k1]
        rw [ih r (by omega) h2 (by simp only at h3; omega) g (by omega)]
      · rw [if_neg k1] at h2 h3 ⊢
        rw [if_neg k1]
        by_cases k2 : Lib.hasPrefix (c :: r) [47, 47] = true
        · rw [if_pos k2] at h2 h3 ⊢
          rw [if_pos k2]
          have hr := runB_le notNlB (c :: r)
          simp only [List.length_cons] at hr
          have hk : 1 ≤ runB notNlB (c :: r) := by
            rw [runB_cons]
            have : notNlB c.toNat = true := by
              have h3 : c = 47 := by simp [Lib.hasPrefix] at k2; exact k2.1.symm
              subst h3; decide
            rw [if_pos this]; omega
          simp only at h2 h3
          rw [hdrop _ hr, ih _ (by simp; omega) h2 (by simp; omega) g (by simp at hg ⊢; omega)]
        · rw [if_neg k2] at h2 h3 ⊢
          rw [if_neg k2]
          by_cases k3 : Lib.hasPrefix (c :: r) [47, 42] = true
          · rw [if_pos k3] at h2 h3 ⊢
            rw [if_pos k3]
            have hpl := Lib.hasPrefix_le k3
            simp only [List.length_cons, List.length_nil] at hpl
            by_cases k4 : Lib.index ((c :: r).drop 2) [42, 47] < 0
            · rw [if_pos k4] at h2; simp at h2
            · rw [if_neg k4] at h2 h3 ⊢
              have hi : Lib.index ((c :: (r ++ 10 :: b)).drop 2) [42, 47] = Lib.index ((c :: r).drop 2) [42, 47] := by
                rw [hdrop 2 (by omega), idx_app b _ (by decide) (by decide) _ (by omega)]
              rw [hi, if_neg k4]
              have hrm := Lib.index_room ((c :: r).drop 2) [42, 47] (by omega)
              simp only [List.length_drop, List.length_cons, List.length_nil] at hrm
              simp only at h2 h3
              rw [hdrop _ (by omega), ih _ (by simp only [List.length_drop, List.length_cons]; omega) h2 (by simp only [List.length_drop, List.length_cons]; omega) g (by simp at hg ⊢; omega)]
          · rw [if_neg k3] at h3 ⊢
            rw [if_neg k3]

theorem hx2_app (b : List UInt8) : ∀ (n : Nat) (l : List UInt8) (v : Int), (hx2 n l v).2.2 = 0 → hx2 n (l ++ b) v = hx2 n l v := by
  intro n
  induction n with
  | zero => intro l v _; cases l <;> simp [hx2]
  | succ n ih =>
    intro l v h
    cases l with
    | nil => simp [hx2] at h
    | cons a r =>
      simp only [List.cons_append, hx2] at h ⊢
      by_cases h1 : a.toNat = 10
      · rw [if_pos h1] at h; simp at h
      · rw [if_neg h1] at h ⊢
        rw [if_neg h1]
        by_cases h2 : hexV a.toNat < 0
        · rw [if_pos h2] at h; simp at h
        · rw [if_neg h2] at h ⊢
          rw [if_neg h2]
          exact ih r _ h
theorem esc_app (b l : List UInt8) (h : (esc l).2.2 = 0) : esc (l ++ b) = esc l := by
  cases l with
  | nil => simp [esc] at h
  | cons c r =>
    simp only [List.cons_append, esc] at h ⊢
    by_cases e1 : c.toNat = 10
    · rw [if_pos e1] at h; simp at h
    · rw [if_neg e1] at h ⊢; rw [if_neg e1]
      by_cases e2 : c.toNat = 110
      · rw [if_pos e2, if_pos e2]
      · rw [if_neg e2] at h ⊢; rw [if_neg e2]
        by_cases e3 : c.toNat = 116
        · rw [if_pos e3, if_pos e3]
        · rw [if_neg e3] at h ⊢; rw [if_neg e3]
          by_cases e4 : c.toNat = 34
          · rw [if_pos e4, if_pos e4]
          · rw [if_neg e4] at h ⊢; rw [if_neg e4]
            by_cases e5 : c.toNat = 92
            · rw [if_pos e5, if_pos e5]
            · rw [if_neg e5] at h ⊢; rw [if_neg e5]
              by_cases e6 : c.toNat ≠ 120
              · rw [if_pos e6, if_pos e6]
              · rw [if_neg e6] at h ⊢; rw [if_neg e6]
                exact hx2_app b 2 r 0 h
theorem esc_le (l : List UInt8) : (esc l).2.1 ≤ l.length := by
  cases l with
  | nil => simp [esc]
  | cons a r =>
    simp only [esc]
    repeat' (split; · simp)
    cases r with
    | nil => simp [hx2]
    | cons b r =>
      simp only [hx2]
      repeat' (split; · simp)
      cases r with
      | nil => simp [hx2]
      | cons c r => simp only [hx2]; repeat' (split; · simp)
                    simp
theorem qtA_app (b : List UInt8) : ∀ (f : Nat) (l acc : List UInt8) (i : Nat), (qtA f l acc i).2.2 = 0 → ∀ g, f ≤ g → qtA g (l ++ b) acc i = qtA f l acc i := by
  intro f
  induction f with
  | zero => intro l acc i h; simp [qtA] at h
  | succ f ih =>
    intro l acc i h g hg
    obtain ⟨g, rfl⟩ : ∃ f', g = f' + 1 := ⟨g - 1, by omega⟩
    cases l with
    | nil => simp [qtA] at h
    | cons c r =>
      simp only [List.cons_append, qtA] at h ⊢
      by_cases e1 : c.toNat = 34
      · rw [if_pos e1, if_pos e1]
      · rw [if_neg e1] at h ⊢; rw [if_neg e1]
        by_cases e2 : c.toNat = 10
        · rw [if_pos e2] at h; simp at h
        · rw [if_neg e2] at h ⊢; rw [if_neg e2]
          by_cases e3 : c.toNat = 92
          · rw [if_pos e3] at h ⊢; rw [if_pos e3]
            by_cases e4 : (esc r).2.2 ≠ 0
            · rw [if_pos e4] at h; simp at h; exact absurd h e4
            · rw [if_neg e4] at h ⊢
              have e4' : (esc r).2.2 = 0 := by simpa using e4
              rw [esc_app b r e4', if_neg e4, List.drop_append_of_le_length (esc_le r)]
              exact ih _ _ _ h g (by omega)
          · rw [if_neg e3] at h ⊢; rw [if_neg e3]
            exact ih _ _ _ h g (by omega)

theorem signN_app (b a : List UInt8) (h : a ≠ []) : signN (a ++ 10 :: b) = signN a := by
  have h1 : pairsL.any (fun p => Lib.hasPrefix (a ++ 10 :: b) p) = pairsL.any (fun p => Lib.hasPrefix a p) := by
    simp only [pairsL, List.any_cons, List.any_nil]
    rw [pre_app b _ a (by decide), pre_app b _ a (by decide), pre_app b _ a (by decide), pre_app b _ a (by decide), pre_app b _ a (by decide), pre_app b _ a (by decide), pre_app b _ a (by decide), pre_app b _ a (by decide)]
  have h2 : (a ++ 10 :: b).headD 0 = a.headD 0 := by cases a with
    | nil => exact absurd rfl h
    | cons c r => rfl
  unfold signN
  rw [h1, h2]
theorem getD_app (b a : List UInt8) (n : Nat) : (n < a.length → (a ++ 10 :: b).getD n 0 = a.getD n 0) ∧ (n = a.length → (a ++ 10 :: b).getD n 0 = 10) := by
  constructor
  · intro h; simp [List.getD, List.getElem?_append_left h]
  · rintro rfl; simp [List.getD]
theorem nextT_app (b a : List UInt8) (ha : a ≠ []) (h : (nextT a).2.2 = 0) : nextT (a ++ 10 :: b) = nextT a := by
  have hs := signN_app b a ha
  have h2 : (a ++ 10 :: b).headD 0 = a.headD 0 := by cases a with
    | nil => exact absurd rfl ha
    | cons c r => rfl
  have hlen := List.length_pos_iff.2 ha
  have hd1 : (a ++ 10 :: b).drop 1 = a.drop 1 ++ 10 :: b := List.drop_append_of_le_length (by omega)
  have ht : ∀ n, n ≤ a.length → (a ++ 10 :: b).take n = a.take n := fun n hn => List.take_append_of_le_length hn
  have hsl := signN_room a ha
  have hsg : (if signN (a ++ 10 :: b) > 0 then ((⟨4, (a ++ 10 :: b).take (signN (a ++ 10 :: b)), 0, 0, 0⟩ : Tok), signN (a ++ 10 :: b), (0 : Int)) else (⟨0, [], 0, 0, 0⟩, 0, 20)) =
      (if signN a > 0 then ((⟨4, a.take (signN a), 0, 0, 0⟩ : Tok), signN a, (0 : Int)) else (⟨0, [], 0, 0, 0⟩, 0, 20)) := by
    rw [hs, ht _ hsl]
  unfold nextT at h ⊢
  simp only at h ⊢
  rw [hsg]
  generalize (if signN a > 0 then ((⟨4, a.take (signN a), 0, 0, 0⟩ : Tok), signN a, (0 : Int)) else (⟨0, [], 0, 0, 0⟩, 0, 20)) = sg at h ⊢
  rw [h2]
  rw [runB_app nameB (by decide), runB_app wordB (by decide), hd1, runB_app wordB (by decide), runB_app smallB (by decide)]
  have hrn := runB_le nameB a
  have hrw := runB_le wordB a
  have hg := getD_app b a
  by_cases c1 : letterB (a.headD 0).toNat = true ∨ ((a.headD 0).toNat : Int) = 95 ∨ ((a.headD 0).toNat : Int) = 35
  · rw [if_pos c1] at h ⊢; rw [if_pos c1]
    rw [ht _ hrn]
    by_cases c2 : runB nameB a = a.length ∨ (a.getD (runB nameB a) 0).toNat ≠ 58
    · rw [if_pos c2]
      have c3 : runB nameB a = (a ++ 10 :: b).length ∨ ((a ++ 10 :: b).getD (runB nameB a) 0).toNat ≠ 58 := by
        refine .inr ?_
        by_cases e : runB nameB a < a.length
        · rw [(hg _).1 e]
          rcases c2 with c2 | c2
          · omega
          · exact c2
        · rw [(hg _).2 (by omega)]; decide
      rw [if_pos c3]
    · rw [if_neg c2]
      have c2' : runB nameB a ≠ a.length := fun e => c2 (.inl e)
      have c3 : ¬ (runB nameB a = (a ++ 10 :: b).length ∨ ((a ++ 10 :: b).getD (runB nameB a) 0).toNat ≠ 58) := by
        rw [(hg _).1 (by omega)]
        rintro (e | e)
        · simp at e; omega
        · exact c2 (.inr e)
      rw [if_neg c3]
  · rw [if_neg c1] at h ⊢; rw [if_neg c1]
    by_cases c2 : digitB (a.headD 0).toNat = true
    · rw [if_pos c2, if_pos c2, ht _ hrw]
    · rw [if_neg c2] at h ⊢; rw [if_neg c2]
      by_cases c3 : ((a.headD 0).toNat : Int) = 34
      · rw [if_pos c3] at h ⊢; rw [if_pos c3]
        rw [qtA_app (10 :: b) _ _ _ _ h _ (by simp)]
      · rw [if_neg c3] at h ⊢; rw [if_neg c3]
        by_cases c4 : ((a.headD 0).toNat : Int) = 38 ∧ 1 < a.length ∧ (letterB (a.getD 1 0).toNat = true ∨ (a.getD 1 0).toNat = 95)
        · have c4' : ((a.headD 0).toNat : Int) = 38 ∧ 1 < (a ++ 10 :: b).length ∧ (letterB ((a ++ 10 :: b).getD 1 0).toNat = true ∨ ((a ++ 10 :: b).getD 1 0).toNat = 95) := by
            rw [(hg 1).1 c4.2.1]
            exact ⟨c4.1, by simp; omega, c4.2.2⟩
          have := runB_le wordB (a.drop 1)
          simp only [List.length_drop] at this
          rw [if_pos c4, if_pos c4', ht _ (by omega)]
        · have c4' : ¬ (((a.headD 0).toNat : Int) = 38 ∧ 1 < (a ++ 10 :: b).length ∧ (letterB ((a ++ 10 :: b).getD 1 0).toNat = true ∨ ((a ++ 10 :: b).getD 1 0).toNat = 95)) := by
            rintro ⟨e1, e2, e3⟩
            by_cases e : 1 < a.length
            · rw [(hg 1).1 e] at e3; exact c4 ⟨e1, e, e3⟩
            · rw [(hg 1).2 (by omega)] at e3
              revert e3; decide
          rw [if_neg c4] at h ⊢; rw [if_neg c4']
          by_cases c5 : ((a.headD 0).toNat : Int) = 47
          · rw [if_pos c5] at h ⊢; rw [if_pos c5]
            have hrr := runB_le smallB (a.drop 1)
            simp only [List.length_drop] at hrr
            generalize runB smallB (a.drop 1) = n at h hrr ⊢
            by_cases c6 : n > 0 ∧ n + 1 < a.length ∧ (a.getD (n + 1) 0).toNat = 47
            · have c6' : n > 0 ∧ n + 1 < (a ++ 10 :: b).length ∧ ((a ++ 10 :: b).getD (n + 1) 0).toNat = 47 := by
                rw [(hg _).1 c6.2.1]; exact ⟨c6.1, by simp; omega, c6.2.2⟩
              rw [if_pos c6, if_pos c6', ht _ (by omega)]
            · have c6' : ¬ (n > 0 ∧ n + 1 < (a ++ 10 :: b).length ∧ ((a ++ 10 :: b).getD (n + 1) 0).toNat = 47) := by
                rintro ⟨e1, e2, e3⟩
                by_cases e : n + 1 < a.length
                · rw [(hg _).1 e] at e3; exact c6 ⟨e1, e, e3⟩
                · rw [(hg _).2 (by omega)] at e3
                  revert e3; decide
              rw [if_neg c6, if_neg c6']
          · rw [if_neg c5, if_neg c5]
end Go.Proofs.YtiojnbhomjkkgaaGreatDoor

namespace Go.Proofs.YtiojnbhomjkkgaaGreatDoor

theorem rdA_fuel (file : Int) : ∀ (n : Nat) (l : List UInt8), l.length ≤ n → ∀ (f g : Nat) (p : Int × Int) (acc : List Tok), l.length < f → l.length < g → rdA file f l p acc = rdA file g l p acc := by
  intro n
  induction n with
  | zero =>
    intro l hl f g p acc hf hg
    obtain ⟨f, rfl⟩ : ∃ f', f = f' + 1 := ⟨f - 1, by omega⟩
    obtain ⟨g, rfl⟩ : ∃ f', g = f' + 1 := ⟨g - 1, by omega⟩
    obtain rfl : l = [] := List.length_eq_zero_iff.1 (by omega)
    simp [rdA, blk]
  | succ n ih =>
    intro l hl f g p acc hf hg
    obtain ⟨f, rfl⟩ : ∃ f', f = f' + 1 := ⟨f - 1, by omega⟩
    obtain ⟨g, rfl⟩ : ∃ f', g = f' + 1 := ⟨g - 1, by omega⟩
    simp only [rdA]
    have hb := blk_le l.length l
    generalize blk l.length l = B at hb ⊢
    by_cases c1 : B.2 = true
    · rw [if_pos c1, if_pos c1]
    · rw [if_neg c1, if_neg c1]
      by_cases c2 : acc.length = 6000
      · rw [if_pos c2, if_pos c2]
      · rw [if_neg c2, if_neg c2]
        by_cases c3 : l.drop B.1 = []
        · rw [if_pos c3, if_pos c3]
        · rw [if_neg c3, if_neg c3]
          by_cases c4 : (nextT (l.drop B.1)).2.2 ≠ 0
          · rw [if_pos c4, if_pos c4]
          · rw [if_neg c4, if_neg c4]
            have hr := nextT_room (l.drop B.1) c3 (by simpa using c4)
            have hp := List.length_pos_iff.2 c3
            simp only [List.length_drop] at hr hp
            exact ih _ (by simp only [List.length_drop]; omega) f g _ _ (by simp only [List.length_drop]; omega) (by simp only [List.length_drop]; omega)

def upT (t : Tok) : Tok := { t with line := t.line + 1 }
theorem adv_up : ∀ (l : List UInt8) (p : Int × Int), adv l (p.1 + 1, p.2) = ((adv l p).1 + 1, (adv l p).2) := by
  intro l
  induction l with
  | nil => intro p; simp [adv]
  | cons c l ih =>
    intro p
    simp only [adv]
    split
    · exact ih (p.1 + 1, 1)
    · exact ih (p.1, p.2 + 1)
theorem rdA_up (file : Int) : ∀ (f : Nat) (l : List UInt8) (p : Int × Int) (acc : List Tok), (rdA file f l (p.1 + 1, p.2) (acc.map upT)).1 = (rdA file f l p acc).1.map upT ∧ (rdA file f l (p.1 + 1, p.2) (acc.map upT)).2.2 = (rdA file f l p acc).2.2 := by
  intro f
  induction f with
  | zero => intro l p acc; simp [rdA]
  | succ f ih =>
    intro l p acc
    simp only [rdA, adv_up, List.length_map]
    by_cases c1 : (blk l.length l).2 = true
    · rw [if_pos c1, if_pos c1]; simp
    · rw [if_neg c1, if_neg c1]
      by_cases c2 : acc.length = 6000
      · rw [if_pos c2, if_pos c2]; simp
      · rw [if_neg c2, if_neg c2]
        by_cases c3 : l.drop (blk l.length l).1 = []
        · rw [if_pos c3, if_pos c3]; simp [upT]
        · rw [if_neg c3, if_neg c3]
          by_cases c4 : (nextT (l.drop (blk l.length l).1)).2.2 ≠ 0
          · rw [if_pos c4, if_pos c4]; simp
          · rw [if_neg c4, if_neg c4]
            have := ih ((l.drop (blk l.length l).1).drop (nextT (l.drop (blk l.length l).1)).2.1) (adv ((l.drop (blk l.length l).1).take (nextT (l.drop (blk l.length l).1)).2.1) (adv (l.take (blk l.length l).1) p)) (acc ++ [{ (nextT (l.drop (blk l.length l).1)).1 with line := (adv (l.take (blk l.length l).1) p).1, col := (adv (l.take (blk l.length l).1) p).2 }])
            rw [List.map_append] at this
            exact this

/-- One place is ahead of another one. -/
def Ahead (p q : Int × Int) : Prop := p.1 < q.1 ∨ p.1 = q.1 ∧ p.2 < q.2
def placeOf (t : Tok) : Int × Int := (t.line, t.col)
theorem adv_ahead : ∀ (l : List UInt8) (p : Int × Int), adv l p = p ∨ Ahead p (adv l p) := by
  intro l
  induction l with
  | nil => intro p; exact .inl rfl
  | cons c l ih =>
    intro p
    right
    simp only [adv]
    split
    · rcases ih (p.1 + 1, 1) with h | h
      · rw [h]; left; show p.1 < p.1 + 1; omega
      · unfold Ahead at h ⊢; simp only at h; omega
    · rcases ih (p.1, p.2 + 1) with h | h
      · rw [h]; right; show p.1 = p.1 ∧ p.2 < p.2 + 1; omega
      · unfold Ahead at h ⊢; simp only at h; omega
theorem adv_ahead1 (l : List UInt8) (hl : l ≠ []) (p : Int × Int) : Ahead p (adv l p) := by
  cases l with
  | nil => exact absurd rfl hl
  | cons c l =>
    simp only [adv]
    split
    · rcases adv_ahead l (p.1 + 1, 1) with h | h
      · rw [h]; left; show p.1 < p.1 + 1; omega
      · unfold Ahead at h ⊢; simp only at h; omega
    · rcases adv_ahead l (p.1, p.2 + 1) with h | h
      · rw [h]; right; show p.1 = p.1 ∧ p.2 < p.2 + 1; omega
      · unfold Ahead at h ⊢; simp only at h; omega
theorem ahead_trans {p q r : Int × Int} (h : q = p ∨ Ahead p q) (k : r = q ∨ Ahead q r) : r = p ∨ Ahead p r := by
  rcases h with rfl | h
  · exact k
  · rcases k with rfl | k
    · exact .inr h
    · right; unfold Ahead at *; omega
theorem rdA_asc (file : Int) : ∀ (f : Nat) (l : List UInt8) (p : Int × Int) (acc : List Tok), (rdA file f l p acc).2.2 = 0 →
    ∃ T : List Tok, T ≠ [] ∧ (rdA file f l p acc).1 = acc ++ T ∧ T.Pairwise (fun a b => Ahead (placeOf a) (placeOf b)) ∧ ∀ t ∈ T, placeOf t = p ∨ Ahead p (placeOf t) := by
  intro f
  induction f with
  | zero => intro l p acc h; simp [rdA] at h
  | succ f ih =>
    intro l p acc h
    simp only [rdA] at h ⊢
    by_cases c1 : (blk l.length l).2 = true
    · rw [if_pos c1] at h; simp at h
    · rw [if_neg c1] at h ⊢
      by_cases c2 : acc.length = 6000
      · rw [if_pos c2] at h; simp at h
      · rw [if_neg c2] at h ⊢
        have hadv := adv_ahead (l.take (blk l.length l).1) p
        generalize adv (l.take (blk l.length l).1) p = p1 at h hadv ⊢
        by_cases c3 : l.drop (blk l.length l).1 = []
        · rw [if_pos c3]
          refine ⟨[⟨8, [], 0, p1.1, p1.2⟩], by simp, rfl, by simp, ?_⟩
          intro t ht
          simp only [List.mem_cons, List.not_mem_nil, or_false] at ht
          subst ht
          exact hadv
        · rw [if_neg c3] at h ⊢
          by_cases c4 : (nextT (l.drop (blk l.length l).1)).2.2 ≠ 0
          · rw [if_pos c4] at h; exact absurd h c4
          · rw [if_neg c4] at h ⊢
            have hr := nextT_room (l.drop (blk l.length l).1) c3 (by simpa using c4)
            obtain ⟨T, _, e2, e3, e4⟩ := ih _ _ _ h
            refine ⟨_ :: T, by simp, by rw [e2]; simp; rfl, ?_, ?_⟩
            · refine List.Pairwise.cons ?_ e3
              intro b hb
              have hlt := adv_ahead1 ((l.drop (blk l.length l).1).take (nextT (l.drop (blk l.length l).1)).2.1) (by intro e; have := congrArg List.length e; rw [List.length_take] at this; simp only [List.length_nil] at this; omega) p1
              rcases e4 b hb with e | e
              · rw [e]; exact hlt
              · unfold Ahead placeOf at *; simp only at *; omega
            · intro t ht
              have hlt := adv_ahead ((l.drop (blk l.length l).1).take (nextT (l.drop (blk l.length l).1)).2.1) p1
              rcases List.mem_cons.1 ht with rfl | ht
              · exact hadv
              · have := e4 t ht
                exact ahead_trans (ahead_trans hadv hlt) this

theorem rdA_pre (file : Int) (b : List UInt8) : ∀ (f : Nat) (a : List UInt8) (p : Int × Int) (acc : List Tok), a.length < f → (rdA file f a p acc).2.2 = 0 →
    ∀ g, (a ++ 10 :: b).length < g → (rdA file g (a ++ 10 :: b) p acc).2.2 = 0 →
    ∃ (T : List Tok) (e : Tok) (rest : List Tok), (rdA file f a p acc).1 = acc ++ T ++ [e] ∧ (rdA file g (a ++ 10 :: b) p acc).1 = acc ++ T ++ rest ∧ rest ≠ [] := by
  intro f
  induction f with
  | zero => intro a p acc h; omega
  | succ f ih =>
    intro a p acc hf h g hg h2
    obtain ⟨g, rfl⟩ : ∃ f', g = f' + 1 := ⟨g - 1, by omega⟩
    by_cases c3 : a.drop (blk a.length a).1 = []
    · obtain ⟨T2, e1, e2, _⟩ := rdA_asc file _ _ _ _ h2
      simp only [rdA] at h ⊢
      by_cases c1 : (blk a.length a).2 = true
      · rw [if_pos c1] at h; simp at h
      · rw [if_neg c1] at h ⊢
        by_cases c2 : acc.length = 6000
        · rw [if_pos c2] at h; simp at h
        · rw [if_neg c2, if_pos c3]
          refine ⟨[], ⟨8, [], 0, (adv (a.take (blk a.length a).1) p).1, (adv (a.take (blk a.length a).1) p).2⟩, T2, by simp, ?_, e1⟩
          rw [List.append_nil, ← e2]
          simp only [rdA]
    · have hb1 : (blk a.length a).1 < a.length := by
        have := List.length_pos_iff.2 c3
        simp only [List.length_drop] at this; omega
      simp only [rdA] at h h2 ⊢
      by_cases c1 : (blk a.length a).2 = true
      · rw [if_pos c1] at h; simp at h
      · have c1' : (blk a.length a).2 = false := by simpa using c1
        have hB := blk_app b a.length a (Nat.le_refl _) c1' hb1 _ (Nat.le_refl _)
        rw [hB] at h2 ⊢
        rw [if_neg c1] at h h2 ⊢
        rw [if_neg c1]
        generalize blk a.length a = B at h h2 hb1 c3 ⊢
        rw [List.take_append_of_le_length (by omega), List.drop_append_of_le_length (by omega)] at h2 ⊢
        by_cases c2 : acc.length = 6000
        · rw [if_pos c2] at h; simp at h
        · rw [if_neg c2] at h h2 ⊢
          rw [if_neg c2]
          rw [if_neg c3] at h ⊢
          have hz : ¬ (a.drop B.1 ++ 10 :: b = []) := by simp
          rw [if_neg hz] at h2 ⊢
          by_cases c4 : (nextT (a.drop B.1)).2.2 ≠ 0
          · rw [if_pos c4] at h; exact absurd h c4
          · have c4' : (nextT (a.drop B.1)).2.2 = 0 := by simpa using c4
            rw [nextT_app b _ c3 c4'] at h2 ⊢
            rw [if_neg c4] at h h2 ⊢
            rw [if_neg c4]
            have hr := nextT_room (a.drop B.1) c3 c4'
            have hl : (a.drop B.1).length = a.length - B.1 := List.length_drop ..
            generalize nextT (a.drop B.1) = N at h h2 hr ⊢
            rw [List.take_append_of_le_length hr.2, List.drop_append_of_le_length hr.2] at h2 ⊢
            have hlen : ((a.drop B.1).drop N.2.1).length < f := by simp only [List.length_drop]; omega
            have hleng : ((a.drop B.1).drop N.2.1 ++ 10 :: b).length < g := by simp only [List.length_append, List.length_drop] at hg ⊢; omega
            obtain ⟨T, e, rest, e1, e2, e3⟩ := ih _ _ _ hlen h g hleng h2
            refine ⟨{ N.1 with line := (adv (a.take B.1) p).1, col := (adv (a.take B.1) p).2 } :: T, e, rest, ?_, ?_, e3⟩
            · rw [e1]; simp
            · rw [e2]; simp

theorem rdA_line (file : Int) : ∀ (f : Nat) (l : List UInt8) (p : Int × Int) (acc : List Tok), 1 ≤ p.1 → 1 ≤ p.2 → ∀ t ∈ (rdA file f l p acc).1, t ∈ acc ∨ (1 ≤ t.line ∧ t.line ≤ p.1 + l.length) := by
  intro f
  induction f with
  | zero => intro l p acc _ _ t ht; simp [rdA] at ht
  | succ f ih =>
    intro l p acc h1 h2 t ht
    simp only [rdA] at ht
    have hb := adv_bd (l.take (blk l.length l).1) p h1 h2
    have hbl := blk_le l.length l
    generalize blk l.length l = B at ht hb hbl
    have htl : (l.take B.1).length = B.1 := by rw [List.length_take]; omega
    rw [htl] at hb
    generalize adv (l.take B.1) p = p1 at ht hb
    by_cases c1 : B.2 = true
    · rw [if_pos c1] at ht; simp at ht
    · rw [if_neg c1] at ht
      by_cases c2 : acc.length = 6000
      · rw [if_pos c2] at ht; simp at ht
      · rw [if_neg c2] at ht
        by_cases c3 : l.drop B.1 = []
        · rw [if_pos c3] at ht
          rcases List.mem_append.1 ht with h | h
          · exact .inl h
          · simp only [List.mem_cons, List.not_mem_nil, or_false] at h
            subst h; right; simp only; omega
        · rw [if_neg c3] at ht
          by_cases c4 : (nextT (l.drop B.1)).2.2 ≠ 0
          · rw [if_pos c4] at ht; simp at ht
          · rw [if_neg c4] at ht
            have hr := nextT_room (l.drop B.1) c3 (by simpa using c4)
            rw [List.length_drop] at hr
            generalize nextT (l.drop B.1) = N at ht hr
            have hb2 := adv_bd ((l.drop B.1).take N.2.1) p1 hb.1 hb.2.1
            have htl2 : ((l.drop B.1).take N.2.1).length = N.2.1 := by rw [List.length_take, List.length_drop]; omega
            rw [htl2] at hb2
            rcases ih _ _ _ hb2.1 hb2.2.1 t ht with h | h
            · rcases List.mem_append.1 h with h | h
              · exact .inl h
              · simp only [List.mem_cons, List.not_mem_nil, or_false] at h
                subst h; right; simp only; omega
            · right; simp only [List.length_drop] at h; omega
theorem readT_line (a : List UInt8) (file : Int) : ∀ t ∈ (readT a file).1, 1 ≤ t.line ∧ t.line ≤ 1 + (a.length : Int) := by
  intro t ht
  unfold readT at ht
  split at ht
  · simp at ht
  · rcases rdA_line file _ _ _ _ (by simp) (by simp) t ht with h | h
    · simp at h
    · exact h
/-- A line feed in front. -/
theorem readT_up (a : List UInt8) (file : Int) (h : a.length < 16000) : (readT (10 :: a) file).1 = (readT a file).1.map upT ∧ (readT (10 :: a) file).2.2 = (readT a file).2.2 := by
  unfold readT
  rw [if_neg (by simp; omega), if_neg (by omega)]
  have h1 := rdA_white (White.one g10) file ((10 :: a).length) a (1, 1) []
  rw [show ([10] : List UInt8) ++ a = 10 :: a from rfl] at h1
  rw [h1, rdA_fuel file a.length a (Nat.le_refl _) _ (a.length + 1) _ _ (by simp; omega) (by omega)]
  exact rdA_up file (a.length + 1) a (1, 1) []
theorem readT_asc (a : List UInt8) (file : Int) (h : (readT a file).2.2 = 0) : (readT a file).1.Pairwise (fun a b => Ahead (placeOf a) (placeOf b)) := by
  unfold readT at h ⊢
  split at h
  · simp at h
  · rename_i h1
    rw [if_neg h1]
    obtain ⟨T, _, e2, e3, _⟩ := rdA_asc file _ _ _ _ h
    rw [e2]; simpa using e3
theorem readT_pre (a b : List UInt8) (file : Int) (h : (readT a file).2.2 = 0) (h2 : (readT (a ++ 10 :: b) file).2.2 = 0) :
    ∃ (T : List Tok) (e : Tok) (rest : List Tok), (readT a file).1 = T ++ [e] ∧ (readT (a ++ 10 :: b) file).1 = T ++ rest ∧ rest ≠ [] := by
  unfold readT at h h2 ⊢
  split at h
  · simp at h
  · rename_i h1
    split at h2
    · simp at h2
    · rename_i h3
      rw [if_neg h1, if_neg h3]
      have := rdA_pre file b _ _ _ _ (Nat.lt_succ_self _) h _ (Nat.lt_succ_self _) h2
      simpa using this
end Go.Proofs.YtiojnbhomjkkgaaGreatDoor

namespace Go.Proofs.YtiojnbhomjkkgaaGreatDoor

/-- In front of r the bytes x give the tokens T. -/
def Lx (x : List UInt8) (T : List (Int × List UInt8 × Int)) (r : List UInt8) : Prop :=
  ∀ (f : Nat) (p : Int × Int) (acc : List Tok), (x ++ r).length ≤ f → acc.length + T.length ≤ 6000 →
    ∃ (f' : Nat) (p' : Int × Int) (Ts : List Tok), r.length ≤ f' ∧ rdA 0 (f + 1) (x ++ r) p acc = rdA 0 (f' + 1) r p' (acc ++ Ts) ∧ Ts.map bare = T
theorem Lx.nil (r : List UInt8) : Lx [] [] r := by
  intro f p acc hf _
  exact ⟨f, p, [], by simpa using hf, by simp, rfl⟩
theorem Lx.append {x y r : List UInt8} {T U : List (Int × List UInt8 × Int)} (h : Lx x T (y ++ r)) (k : Lx y U r) : Lx (x ++ y) (T ++ U) r := by
  intro f p acc hf ha
  simp only [List.length_append] at ha
  obtain ⟨f1, p1, T1, h1, e1, m1⟩ := h f p acc (by simpa using hf) (by omega)
  have hT1 : T1.length = T.length := by rw [← m1]; simp
  obtain ⟨f2, p2, T2, h2, e2, m2⟩ := k f1 p1 (acc ++ T1) h1 (by simp; omega)
  refine ⟨f2, p2, T1 ++ T2, h2, ?_, by simp [m1, m2]⟩
  rw [List.append_assoc, e1, e2, List.append_assoc]
theorem Lx.white {x : List UInt8} (hx : White x) (r : List UInt8) : Lx x [] r := by
  intro f p acc hf _
  exact ⟨f, adv x p, [], by simp at hf; omega, by rw [rdA_white hx]; simp, rfl⟩
theorem Lx.sp (r : List UInt8) : Lx [32] [] r := .white (.one g32) r
theorem Lx.tok {x r : List UInt8} {t : Tok} (hx : x ≠ []) (hb : blk (x ++ r).length (x ++ r) = (0, false)) (hn : nextT (x ++ r) = (t, x.length, 0)) : Lx x [bare t] r := by
  intro f p acc hf ha
  have hp := List.length_pos_iff.2 hx
  simp only [List.length_append] at hf
  simp only [List.length_cons, List.length_nil] at ha
  obtain ⟨g, rfl⟩ : ∃ g, f = g + 1 := ⟨f - 1, by omega⟩
  refine ⟨g, adv x p, [{ t with line := p.1, col := p.2 }], by omega, ?_, rfl⟩
  rw [rdA]
  simp only [hb, List.drop_zero, List.take_zero, adv]
  rw [if_neg (by simp), if_neg (by omega), if_neg (fun e => hx (List.append_eq_nil_iff.1 e).1), hn]
  simp only []
  rw [if_neg (by simp), List.drop_left, List.take_left]
theorem Lx.read {x : List UInt8} {T : List (Int × List UInt8 × Int)} (h : Lx x T []) (hl : x.length ≤ 16000) (hT : T.length < 6000) : ∃ toks : List Tok, readT x 0 = (toks, (0, 0, 0), 0) ∧ toks.map bare = T ++ [(8, [], 0)] := by
  obtain ⟨f, p, Ts, h1, e, m⟩ := h x.length (1, 1) [] (by simp) (by simpa using Nat.le_of_lt hT)
  have hTs : Ts.length = T.length := by rw [← m]; simp
  refine ⟨Ts ++ [⟨8, [], 0, p.1, p.2⟩], ?_, by simp [m, bare]⟩
  unfold readT
  rw [if_neg (by omega)]
  simp only [List.append_nil, List.nil_append] at e
  rw [e, rdA]
  simp only [List.length_nil, blk_nil, List.drop_nil, List.take_nil, adv]
  rw [if_neg (by simp), if_neg (by omega)]
  simp
/-- A sign of one byte, whatever follows. -/
theorem Lx.one {c : UInt8} {r : List UInt8} (hb : blk 1 (c :: r) = (0, false)) (hb2 : sepB c.toNat = false ∧ c.toNat ≠ 47) (hn : nextT (c :: r) = (⟨4, [c], 0, 0, 0⟩, 1, 0)) : Lx [c] [(4, [c], 0)] r :=
  Lx.tok (t := ⟨4, [c], 0, 0, 0⟩) (by simp) (by have := blk_begin (f := ([c] ++ r).length) (r := r) hb2.1 hb2.2; exact this) hn
theorem Lx.lpar (r : List UInt8) : Lx [40] [(4, [40], 0)] r := .one (by kernel_rfl) (by decide) (by kernel_rfl)
theorem Lx.rpar (r : List UInt8) : Lx [41] [(4, [41], 0)] r := .one (by kernel_rfl) (by decide) (by kernel_rfl)
theorem Lx.minus (r : List UInt8) : Lx [45] [(4, [45], 0)] r := .one (by kernel_rfl) (by decide) (by kernel_rfl)
theorem Lx.compl (r : List UInt8) : Lx [126] [(4, [126], 0)] r := .one (by kernel_rfl) (by decide) (by kernel_rfl)
theorem Lx.quest (r : List UInt8) : Lx [63] [(4, [63], 0)] r := .one (by kernel_rfl) (by decide) (by kernel_rfl)
theorem Lx.colon (r : List UInt8) : Lx [58] [(4, [58], 0)] r := .one (by kernel_rfl) (by decide) (by kernel_rfl)
theorem Lx.bang (r : List UInt8) : Lx [33] [(4, [33], 0)] (40 :: r) := .one (by kernel_rfl) (by decide) (by kernel_rfl)
/-- The signs between two operands. -/
def signsX : List (List UInt8) := [[42], [47], [37], [43], [45], [60, 60], [62, 62], [60], [62], [60, 61], [62, 61], [61, 61], [33, 61], [38], [94], [124], [38, 38], [124, 124]]
theorem Lx.sign (r : List UInt8) : ∀ s ∈ signsX, Lx s [(4, s, 0)] (32 :: r) := by
  intro s hs
  have h1 : s ≠ [] ∧ blk (s ++ 32 :: r).length (s ++ 32 :: r) = (0, false) ∧ nextT (s ++ 32 :: r) = (⟨4, s, 0, 0, 0⟩, s.length, 0) := by
    simp only [signsX, List.mem_cons, List.not_mem_nil, or_false] at hs
    rcases hs with rfl | rfl | rfl | rfl | rfl | rfl | rfl | rfl | rfl | rfl | rfl | rfl | rfl | rfl | rfl | rfl | rfl | rfl <;> exact ⟨by simp, by kernel_rfl, by kernel_rfl⟩
  exact Lx.tok h1.1 h1.2.1 h1.2.2
theorem runB_stop (p : Int → Bool) (r : List UInt8) : ∀ l : List UInt8, (∀ x ∈ l, p x.toNat = true) → (r = [] ∨ p (r.headD 0).toNat = false) → runB p (l ++ r) = l.length := by
  intro l
  induction l with
  | nil =>
    intro _ h
    rcases h with rfl | h
    · rfl
    · cases r with
      | nil => rfl
      | cons c r => rw [List.nil_append, runB_cons, if_neg (by simpa using h)]; rfl
  | cons c l ih => intro h h2; rw [List.cons_append, runB_cons, if_pos (h c (by simp)), ih (fun x hx => h x (by simp [hx])) h2]; rfl
theorem Lx.num {x r : List UInt8} {v : Int} (hl : x ≠ []) (hw : ∀ c ∈ x, wordB c.toNat = true) (hd : digitB (x.headD 0).toNat = true) (hv : numT x = (v, 0)) (hr : r = [] ∨ wordB (r.headD 0).toNat = false) : Lx x [(2, [], v)] r := by
  obtain ⟨h1, h2, h3⟩ := digit_no _ hd
  have hb : blk (x ++ r).length (x ++ r) = (0, false) := by
    cases x with
    | nil => exact absurd rfl hl
    | cons c l => exact blk_begin (by simpa using h1) (by simp at h2; omega)
  have hh : (x ++ r).headD 0 = x.headD 0 := by
    cases x with
    | nil => exact absurd rfl hl
    | cons c l => rfl
  refine Lx.tok (t := ⟨2, [], v, 0, 0⟩) hl hb ?_
  unfold nextT; simp only []; rw [hh, if_neg h3, if_pos hd, runB_stop wordB r x hw hr, List.take_left, hv]
theorem numR_le {n : Nat} (h : n ≤ 4294967295) : numR (some (min (n : Int) 4294967296)) = ((n : Int), 0) := by
  unfold numR
  simp only []
  rw [Int.min_eq_left (by omega), if_neg (by omega)]
/-- A decimal. -/
theorem Lx.dec {n : Nat} {r : List UInt8} (h : n ≤ 4294967295) (hr : r = [] ∨ wordB (r.headD 0).toNat = false) : Lx (basedT 10 false n) [(2, [], (n : Int))] r :=
  Lx.num (basedT_ne 10 false (by omega) n) (fun c hc => basedT_all 10 false (by omega) (by omega) (fun x => wordB x.toNat = true) (fun d hd => digCh_word false d (by omega)) n n (Nat.le_refl _) c hc)
    (by
      have := basedT_all 10 false (by omega) (by omega) (fun x => digitB x.toNat = true) (fun d hd => (digCh_dec d hd).1) n n (Nat.le_refl _)
      have hne := basedT_ne 10 false (by omega) n
      cases e : basedT 10 false n with
      | nil => exact absurd e hne
      | cons a l => rw [e] at this; exact this a (by simp)) (by rw [numT_dec, numR_le h]) hr
/-- What Format writes. -/
def fmtT (n : Nat) : List UInt8 := if n < 10 then [digCh false n] else 48 :: 120 :: basedT 16 false n
theorem fmt_ne (n : Nat) : fmtT n ≠ [] := by unfold fmtT; split <;> simp
theorem Lx.fmt {n : Nat} {r : List UInt8} (h : n ≤ 4294967295) (hr : r = [] ∨ wordB (r.headD 0).toNat = false) : Lx (fmtT n) [(2, [], (n : Int))] r := by
  unfold fmtT
  split
  · rename_i hn
    have := Lx.dec (n := n) (r := r) h hr
    rwa [basedT_small 10 false n hn] at this
  · refine Lx.num (by simp) ?_ (show digitB (48 : UInt8).toNat = true by decide) (by rw [numT_hex, numR_le h]) hr
    intro c hc
    simp only [List.mem_cons] at hc
    rcases hc with rfl | rfl | hc
    · decide
    · decide
    · exact basedT_all 16 false (by omega) (by omega) (fun x => wordB x.toNat = true) (fun d hd => digCh_word false d hd) n n (Nat.le_refl _) c hc
theorem basedT_dec_len : ∀ (m n : Nat), n < 10 ^ (m + 1) → (basedT 10 false n).length ≤ m + 1 := by
  intro m
  induction m with
  | zero => intro n h; rw [basedT_small 10 false n (by omega)]; simp
  | succ m ih =>
    intro n h
    rcases Nat.lt_or_ge n 10 with c | c
    · rw [basedT_small 10 false n c]; simp
    · rw [basedT_great 10 false (by omega) n c]
      have := ih (n / 10) (by rw [Nat.pow_succ] at h; omega)
      simp; omega
theorem basedT_len10 (n : Nat) (h : n ≤ 4294967295) : (basedT 10 false n).length ≤ 10 := basedT_dec_len 9 n (by omega)
end Go.Proofs.YtiojnbhomjkkgaaGreatDoor
