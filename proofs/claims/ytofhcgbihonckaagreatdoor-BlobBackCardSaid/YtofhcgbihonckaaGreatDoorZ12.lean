/- What Read of token computes, in plain Lean. -/
import Derived.Test.YtofhcgbihonckaaGreatDoorZ1
import Derived.Laws.Closers25b

set_option linter.unusedVariables false
set_option linter.unusedSimpArgs false
set_option linter.unusedSectionVars false

namespace Go.Proofs.YtofhcgbihonckaaGreatDoor

theorem empty_of (s : ByteArray) (h : s.size = 0) : s = ByteArray.empty := by
  apply ByteArray.ext; apply Array.eq_empty_of_size_eq_zero; simpa using h
theorem toList_ne (s : ByteArray) (h : 0 < s.size) : ¬ s.toList = [] := by
  rw [toList_nil_iff_emptyBytes]; rintro rfl; simp at h
theorem toList_isEmpty (s : ByteArray) (h : 0 < s.size) : s.toList.isEmpty = false := by
  have := toList_ne s h; simpa using this

/-- What stands between tokens: how many bytes, and whether a comment does not end. -/
def blk : Nat → List UInt8 → Nat × Bool
  | 0, _ => (0, false)
  | _ + 1, [] => (0, false)
  | f + 1, c :: r =>
    if sepB c.toNat = true then ((blk f r).1 + 1, (blk f r).2)
    else if Lib.hasPrefix (c :: r) [47, 47] = true then
      let k := runB notNlB (c :: r)
      ((blk f ((c :: r).drop k)).1 + k, (blk f ((c :: r).drop k)).2)
    else if Lib.hasPrefix (c :: r) [47, 42] = true then
      let e := Lib.index ((c :: r).drop 2) [42, 47]
      if e < 0 then (0, true) else ((blk f ((c :: r).drop (e.toNat + 4))).1 + (e.toNat + 4), (blk f ((c :: r).drop (e.toNat + 4))).2)
    else (0, false)

theorem blk_le : ∀ (f : Nat) (l : List UInt8), (blk f l).1 ≤ l.length := by
  intro f
  induction f with
  | zero => intro l; simp [blk]
  | succ f ih =>
    intro l
    cases l with
    | nil => simp [blk]
    | cons c r =>
      simp only [blk]
      split
      · have := ih r; simp; omega
      · split
        · have h1 := ih ((c :: r).drop (runB notNlB (c :: r)))
          have h2 := runB_le notNlB (c :: r)
          simp only [List.length_drop] at h1
          simp only; omega
        · split
          · split
            · simp
            · rename_i h2 h3
              have h1 := ih ((c :: r).drop ((Lib.index ((c :: r).drop 2) [42, 47]).toNat + 4))
              have hr := Lib.index_room ((c :: r).drop 2) [42, 47] (by omega)
              have hp := Lib.hasPrefix_le h2
              simp only [List.length_drop, List.length_cons, List.length_nil] at h1 hr hp ⊢
              omega
          · simp

/-- The value of the digits, or nothing; beyond the greatest cell only the size matters no more. -/
def numFold (base : Int) : List UInt8 → Int → Option Int
  | [], n => some n
  | c :: r, n => if hexV c.toNat < 0 ∨ base ≤ hexV c.toNat then none else numFold base r (min (n * base + hexV c.toNat) 4294967296)
def numParts (l : List UInt8) : Int × List UInt8 :=
  if Lib.hasPrefix l [48, 120] = true then (16, l.drop 2) else if 1 < l.length ∧ l.headD 0 = 48 then (8, l.drop 1) else (10, l)
def numR (o : Option Int) : Int × Int :=
  match o with
  | none => (0, 6)
  | some n => if n > 4294967295 then (0, 2) else (n, 0)
def numT (l : List UInt8) : Int × Int := if (numParts l).2 = [] then (0, 6) else numR (numFold (numParts l).1 (numParts l).2 0)

/-- Digits of a byte, n of them, behind the value v. -/
def hx2 : Nat → List UInt8 → Int → Int × Nat × Int
  | 0, _, v => (v, 3, 0)
  | _ + 1, [], _ => (0, 0, 21)
  | n + 1, a :: r, v => if a.toNat = 10 then (0, 0, 21) else if hexV a.toNat < 0 then (0, 0, 6) else hx2 n r (16 * v + hexV a.toNat)
/-- The byte that the characters behind a backslash stand for, their number, the error. -/
def esc (l : List UInt8) : Int × Nat × Int :=
  match l with
  | [] => (0, 0, 21)
  | c :: r =>
    if c.toNat = 10 then (0, 0, 21)
    else if c.toNat = 110 then (10, 1, 0) else if c.toNat = 116 then (9, 1, 0) else if c.toNat = 34 then (34, 1, 0) else if c.toNat = 92 then (92, 1, 0)
    else if c.toNat ≠ 120 then (0, 0, 6)
    else hx2 2 r 0
theorem hexV_bd (c : Int) : -1 ≤ hexV c ∧ hexV c ≤ 15 := by unfold hexV; split; omega; split; omega; split; omega; omega

/-- The string's text, gathered in acc from place i on; its number of bytes; the error. -/
def qtA : Nat → List UInt8 → List UInt8 → Nat → List UInt8 × Nat × Int
  | 0, _, _, _ => ([], 0, 21)
  | _ + 1, [], _, _ => ([], 0, 21)
  | f + 1, c :: r, acc, i =>
    if c.toNat = 34 then (acc, i + 1, 0)
    else if c.toNat = 10 then ([], 0, 21)
    else if c.toNat = 92 then
      (if (esc r).2.2 ≠ 0 then ([], 0, (esc r).2.2) else qtA f (r.drop (esc r).2.1) (acc ++ [(esc r).1.toNat.toUInt8]) (i + (esc r).2.1 + 1))
    else qtA f r (acc ++ [c]) (i + 1)

def pairsL : List (List UInt8) := [[60, 60], [62, 62], [60, 61], [62, 61], [61, 61], [33, 61], [38, 38], [124, 124]]
def singlesL : List UInt8 := [123, 125, 40, 41, 60, 62, 91, 93, 59, 61, 44, 43, 45, 42, 47, 37, 38, 124, 94, 126, 33, 63, 58]
def signN (l : List UInt8) : Nat :=
  if pairsL.any (fun p => Lib.hasPrefix l p) = true then 2 else if memB singlesL (l.headD 0).toNat = true then 1 else 0

/-- A token without its place. -/
structure Tok where
  kind : Int
  text : List UInt8
  value : Int
  line : Int
  col : Int
  deriving DecidableEq, Repr

/-- The token with which a text that is not empty begins, its number of bytes, the error. -/
def nextT (l : List UInt8) : Tok × Nat × Int :=
  let c : Int := (l.headD 0).toNat
  let sg : Tok × Nat × Int := if signN l > 0 then (⟨4, l.take (signN l), 0, 0, 0⟩, signN l, 0) else (⟨0, [], 0, 0, 0⟩, 0, 20)
  if letterB c = true ∨ c = 95 ∨ c = 35 then
    let n := runB nameB l
    if n = l.length ∨ (l.getD n 0).toNat ≠ 58 then (⟨1, l.take n, 0, 0, 0⟩, n, 0)
    else if allB wordB (l.take n) = true then (⟨5, l.take n, 0, 0, 0⟩, n + 1, 0) else (⟨0, [], 0, 0, 0⟩, 0, 6)
  else if digitB c = true then
    let n := runB wordB l
    (⟨2, [], (numT (l.take n)).1, 0, 0⟩, n, (numT (l.take n)).2)
  else if c = 34 then
    let q := qtA l.length (l.drop 1) [] 1
    (⟨3, q.1, 0, 0, 0⟩, q.2.1, q.2.2)
  else if c = 38 ∧ 1 < l.length ∧ (letterB (l.getD 1 0).toNat = true ∨ (l.getD 1 0).toNat = 95) then
    let n := runB wordB (l.drop 1) + 1
    (⟨6, (l.take n).drop 1, 0, 0, 0⟩, n, 0)
  else if c = 47 then
    let n := runB smallB (l.drop 1)
    if n > 0 ∧ n + 1 < l.length ∧ (l.getD (n + 1) 0).toNat = 47 then (⟨7, (l.take (n + 1)).drop 1, 0, 0, 0⟩, n + 2, 0) else sg
  else sg

/-- All tokens of a text; without an error the place is nowhere. -/
def rdA (file : Int) : Nat → List UInt8 → Int × Int → List Tok → List Tok × (Int × Int × Int) × Int
  | 0, _, p, _ => ([], (file, p.1, p.2), 21)
  | f + 1, l, p, acc =>
    let b := blk l.length l
    let p1 := adv (l.take b.1) p
    let l1 := l.drop b.1
    if b.2 = true then ([], (file, p1.1, p1.2), 21)
    else if acc.length = 6000 then ([], (file, p1.1, p1.2), 3)
    else if l1 = [] then (acc ++ [⟨8, [], 0, p1.1, p1.2⟩], (0, 0, 0), 0)
    else
      let t := nextT l1
      if t.2.2 ≠ 0 then ([], (file, p1.1, p1.2), t.2.2)
      else rdA file f (l1.drop t.2.1) (adv (l1.take t.2.1) p1) (acc ++ [{ t.1 with line := p1.1, col := p1.2 }])
def readT (l : List UInt8) (file : Int) : List Tok × (Int × Int × Int) × Int :=
  if 16000 < l.length then ([], (0, 0, 0), 3) else rdA file (l.length + 1) l (1, 1) []
theorem numParts_bd (l : List UInt8) : 8 ≤ (numParts l).1 ∧ (numParts l).1 ≤ 16 := by
  unfold numParts; split; simp; split <;> simp
theorem numParts_len (l : List UInt8) : (numParts l).2.length ≤ l.length := by
  unfold numParts; split; simp; split <;> simp
theorem drop_toList (s : ByteArray) (a : Nat) : (s.extract a s.size).data.toList = s.data.toList.drop a := by
  simp [ByteArray.data_extract, Array.toList_extract, List.extract_eq_take_drop]
  try exact List.take_of_length_le (by simp)
theorem take_toList (s : ByteArray) (a b : Nat) : (s.extract a b).data.toList = (s.data.toList.take b).drop a := by
  simp [ByteArray.data_extract, Array.toList_extract, List.extract_eq_take_drop]
  try rw [List.drop_take]
theorem numFold_bd (base : Int) : ∀ (l : List UInt8) (n r : Int), numFold base l n = some r → 0 ≤ base → 0 ≤ n → n ≤ 4294967296 → 0 ≤ r ∧ r ≤ 4294967296 := by
  intro l
  induction l with
  | nil => intro n r h; simp [numFold] at h; omega
  | cons c l ih =>
    intro n r h hb h0 h1
    simp only [numFold] at h
    split at h
    · cases h
    · have : 0 ≤ n * base := Int.mul_nonneg h0 hb
      exact ih _ _ h hb (by omega) (by omega)
end Go.Proofs.YtofhcgbihonckaaGreatDoor
