/- What Read of token computes, in plain Lean. | Plain laws on what next of token computes: how far it reads. | Plain laws: what separates tokens changes only places. | Plain laws: places of tokens ascend; a line feed ends what was before; a line feed in front moves all. | Plain laws: places of tokens ascend; a line feed ends what was before; a line feed in front moves all: whole texts. | Digits of a number, in plain Lean. | Plain laws: what the tokens of a number's digits are. | Plain laws: the tokens of texts put together of pieces. -/
import Derived.Test.YtofhcgbihonckaaGreatZ4
import Derived.Laws.Closers25b
set_option linter.unusedVariables false
set_option linter.unusedSimpArgs false
set_option linter.unusedSectionVars false
namespace Go.Proofs.YtofhcgbihonckaaGreat
theorem empty_of (s : ByteArray) (h : s.size = 0) : s = ByteArray.empty := by
  apply ByteArray.ext; apply Array.eq_empty_of_size_eq_zero; simpa using h
theorem toList_ne (s : ByteArray) (h : 0 < s.size) : ¬ s.toList = [] := by
  rw [toList_nil_iff_emptyBytes]; rintro rfl; simp at h
theorem toList_isEmpty (s : ByteArray) (h : 0 < s.size) : s.toList.isEmpty = false := by
  have := toList_ne s h; simpa using this
def blk : Nat → List UInt8 → Nat × Bool
  | 0, _ => (0, false)
  | _ + 1, [] => (0, false)
  | f + 1, c :: r =>
    if sepB c.toNat = true then ((blk f r).1 + 1, (blk f r).2)
    else if Lib.hasPrefix (c :: r) [47, 47] = true then
      let k := runB notNlB (c :: r)
      ((blk f ((c :: r).drop k)).1 + k, (blk f ((c :: r).drop k)).2)
    else if Lib.hasPrefix (c :: r) [47, 42] = true then
      let e := Lib.index ((c :: r).drop 2) [42, 47]
      if e < 0 then (0, true) else ((blk f ((c :: r).drop (e.toNat + 4))).1 + (e.toNat + 4), (blk f ((c :: r).drop (e.toNat + 4))).2)
    else (0, false)
theorem blk_le : ∀ (f : Nat) (l : List UInt8), (blk f l).1 ≤ l.length := by
  intro f
  induction f with
  | zero => intro l; simp [blk]
  | succ f ih =>
    intro l
    cases l with
    | nil => simp [blk]
    | cons c r =>
      simp only [blk]
      split
      · have := ih r; simp; omega
      · split
        · have h1 := ih ((c :: r).drop (runB notNlB (c :: r)))
          have h2 := runB_le notNlB (c :: r)
          simp only [List.length_drop] at h1
          simp only; omega
        · split
          · split
            · simp
            · rename_i h2 h3
              have h1 := ih ((c :: r).drop ((Lib.index ((c :: r).drop 2) [42, 47]).toNat + 4))
              have hr := Lib.index_room ((c :: r).drop 2) [42, 47] (by omega)
              have hp := Lib.hasPrefix_le h2
              simp only [List.length_drop, List.length_cons, List.length_nil] at h1 hr hp ⊢
              omega
          · simp
def numFold (base : Int) : List UInt8 → Int → Option Int
  | [], n => some n
  | c :: r, n => if hexV c.toNat < 0 ∨ base ≤ hexV c.toNat then none else numFold base r (min (n * base + hexV c.toNat) 4294967296)
def numParts (l : List UInt8) : Int × List UInt8 :=
  if Lib.hasPrefix l [48, 120] = true then (16, l.drop 2) else if 1 < l.length ∧ l.headD 0 = 48 then (8, l.drop 1) else (10, l)
def numR (o : Option Int) : Int × Int :=
  match o with
  | none => (0, 6)
  | some n => if n > 4294967295 then (0, 2) else (n, 0)
def numT (l : List UInt8) : Int × Int := if (numParts l).2 = [] then (0, 6) else numR (numFold (numParts l).1 (numParts l).2 0)
def hx2 : Nat → List UInt8 → Int → Int × Nat × Int
  | 0, _, v => (v, 3, 0)
  | _ + 1, [], _ => (0, 0, 21)
  | n + 1, a :: r, v => if a.toNat = 10 then (0, 0, 21) else if hexV a.toNat < 0 then (0, 0, 6) else hx2 n r (16 * v + hexV a.toNat)
def esc (l : List UInt8) : Int × Nat × Int :=
  match l with
  | [] => (0, 0, 21)
  | c :: r =>
    if c.toNat = 10 then (0, 0, 21)
    else if c.toNat = 110 then (10, 1, 0) else if c.toNat = 116 then (9, 1, 0) else if c.toNat = 34 then (34, 1, 0) else if c.toNat = 92 then (92, 1, 0)
    else if c.toNat ≠ 120 then (0, 0, 6)
    else hx2 2 r 0
theorem hexV_bd (c : Int) : -1 ≤ hexV c ∧ hexV c ≤ 15 := by unfold hexV; split; omega; split; omega; split; omega; omega
def qtA : Nat → List UInt8 → List UInt8 → Nat → List UInt8 × Nat × Int
  | 0, _, _, _ => ([], 0, 21)
  | _ + 1, [], _, _ => ([], 0, 21)
  | f + 1, c :: r, acc, i =>
    if c.toNat = 34 then (acc, i + 1, 0)
    else if c.toNat = 10 then ([], 0, 21)
    else if c.toNat = 92 then
      (if (esc r).2.2 ≠ 0 then ([], 0, (esc r).2.2) else qtA f (r.drop (esc r).2.1) (acc ++ [(esc r).1.toNat.toUInt8]) (i + (esc r).2.1 + 1))
    else qtA f r (acc ++ [c]) (i + 1)
def pairsL : List (List UInt8) := [[60, 60], [62, 62], [60, 61], [62, 61], [61, 61], [33, 61], [38, 38], [124, 124]]
def singlesL : List UInt8 := [123, 125, 40, 41, 60, 62, 91, 93, 59, 61, 44, 43, 45, 42, 47, 37, 38, 124, 94, 126, 33, 63, 58]
def signN (l : List UInt8) : Nat :=
  if pairsL.any (fun p => Lib.hasPrefix l p) = true then 2 else if memB singlesL (l.headD 0).toNat = true then 1 else 0
structure Tok where
  kind : Int
  text : List UInt8
  value : Int
  line : Int
  col : Int
  deriving DecidableEq, Repr
def nextT (l : List UInt8) : Tok × Nat × Int :=
  let c : Int := (l.headD 0).toNat
  let sg : Tok × Nat × Int := if signN l > 0 then (⟨4, l.take (signN l), 0, 0, 0⟩, signN l, 0) else (⟨0, [], 0, 0, 0⟩, 0, 20)
  if letterB c = true ∨ c = 95 ∨ c = 35 then
    let n := runB nameB l
    if n = l.length ∨ (l.getD n 0).toNat ≠ 58 then (⟨1, l.take n, 0, 0, 0⟩, n, 0)
    else if allB wordB (l.take n) = true then (⟨5, l.take n, 0, 0, 0⟩, n + 1, 0) else (⟨0, [], 0, 0, 0⟩, 0, 6)
  else if digitB c = true then
    let n := runB wordB l
    (⟨2, [], (numT (l.take n)).1, 0, 0⟩, n, (numT (l.take n)).2)
  else if c = 34 then
    let q := qtA l.length (l.drop 1) [] 1
    (⟨3, q.1, 0, 0, 0⟩, q.2.1, q.2.2)
  else if c = 38 ∧ 1 < l.length ∧ (letterB (l.getD 1 0).toNat = true ∨ (l.getD 1 0).toNat = 95) then
    let n := runB wordB (l.drop 1) + 1
    (⟨6, (l.take n).drop 1, 0, 0, 0⟩, n, 0)
  else if c = 47 then
    let n := runB smallB (l.drop 1)
    if n > 0 ∧ n + 1 < l.length ∧ (l.getD (n + 1) 0).toNat = 47 then (⟨7, (l.take (n + 1)).drop 1, 0, 0, 0⟩, n + 2, 0) else sg
  else sg
def rdA (file : Int) : Nat → List UInt8 → Int × Int → List Tok → List Tok × (Int × Int × Int) × Int
  | 0, _, p, _ => ([], (file, p.1, p.2), 21)
  | f + 1, l, p, acc =>
    let b := blk l.length l
    let p1 := adv (l.take b.1) p
    let l1 := l.drop b.1
    if b.2 = true then ([], (file, p1.1, p1.2), 21)
    else if acc.length = 6000 then ([], (file, p1.1, p1.2), 3)
    else if l1 = [] then (acc ++ [⟨8, [], 0, p1.1, p1.2⟩], (0, 0, 0), 0)
    else
      let t := nextT l1
      if t.2.2 ≠ 0 then ([], (file, p1.1, p1.2), t.2.2)
      else rdA file f (l1.drop t.2.1) (adv (l1.take t.2.1) p1) (acc ++ [{ t.1 with line := p1.1, col := p1.2 }])
def readT (l : List UInt8) (file : Int) : List Tok × (Int × Int × Int) × Int :=
  if 16000 < l.length then ([], (0, 0, 0), 3) else rdA file (l.length + 1) l (1, 1) []
theorem numParts_bd (l : List UInt8) : 8 ≤ (numParts l).1 ∧ (numParts l).1 ≤ 16 := by
  unfold numParts; split; simp; split <;> simp
theorem numParts_len (l : List UInt8) : (numParts l).2.length ≤ l.length := by
  unfold numParts; split; simp; split <;> simp
theorem drop_toList (s : ByteArray) (a : Nat) : (s.extract a s.size).data.toList = s.data.toList.drop a := by
  simp [ByteArray.data_extract, Array.toList_extract, List.extract_eq_take_drop]
  try exact List.take_of_length_le (by simp)
theorem take_toList (s : ByteArray) (a b : Nat) : (s.extract a b).data.toList = (s.data.toList.take b).drop a := by
  simp [ByteArray.data_extract, Array.toList_extract, List.extract_eq_take_drop]
  try rw [List.drop_take]
end Go.Proofs.YtofhcgbihonckaaGreat
namespace Go.Proofs.YtofhcgbihonckaaGreat
theorem qtA_room : ∀ (f : Nat) (l acc : List UInt8) (i : Nat), (qtA f l acc i).2.2 = 0 → i + 1 ≤ (qtA f l acc i).2.1 ∧ (qtA f l acc i).2.1 ≤ i + l.length := by
  intro f
  induction f with
  | zero => intro l acc i h; simp [qtA] at h
  | succ f ih =>
    intro l acc i h
    cases l with
    | nil => simp [qtA] at h
    | cons c r =>
      by_cases h34 : c.toNat = 34
      · simp only [qtA]; rw [if_pos h34]; simp
      · by_cases h10 : c.toNat = 10
        · simp only [qtA] at h; rw [if_neg h34, if_pos h10] at h; simp at h
        · by_cases h92 : c.toNat = 92
          · simp only [qtA] at h ⊢; rw [if_neg h34, if_neg h10, if_pos h92] at h ⊢
            by_cases he : (esc r).2.2 ≠ 0
            · rw [if_pos he] at h; exact absurd h he
            · rw [if_neg he] at h ⊢
              have := ih _ _ _ h
              have hr : (esc r).2.1 ≤ r.length := by
                cases r with
                | nil => simp [esc]
                | cons a r =>
                  simp only [esc]
                  repeat' (split; · simp)
                  cases r with
                  | nil => simp [hx2]
                  | cons b r =>
                    simp only [hx2]
                    repeat' (split; · simp)
                    cases r with
                    | nil => simp [hx2]
                    | cons c r => simp only [hx2]; repeat' (split; · simp)
                                  simp
              simp only [List.length_drop, List.length_cons] at this ⊢
              omega
          · simp only [qtA] at h ⊢; rw [if_neg h34, if_neg h10, if_neg h92] at h ⊢
            have := ih _ _ _ h
            simp only [List.length_cons]
            omega
theorem runB_pos (p : Int → Bool) (l : List UInt8) (h : l ≠ []) (hp : p (l.headD 0).toNat = true) : 1 ≤ runB p l := by
  cases l with
  | nil => exact absurd rfl h
  | cons c r => rw [runB_cons, if_pos (by simpa using hp)]; omega
theorem name_first (c : Int) (h : letterB c = true ∨ c = 95 ∨ c = 35) : nameB c = true := by
  unfold nameB wordB
  rcases h with h | h | h
  · simp [h]
  · simp [h]
  · subst h; decide
theorem signN_room (l : List UInt8) (h : l ≠ []) : signN l ≤ l.length := by
  unfold signN
  split
  · rename_i h2
    simp only [pairsL, List.any_cons, List.any_nil, Bool.or_false, Bool.or_eq_true] at h2
    rcases h2 with h2 | h2 | h2 | h2 | h2 | h2 | h2 | h2 <;> exact Lib.hasPrefix_le h2
  · split
    · have := List.length_pos_iff.2 h; omega
    · omega
theorem nextT_room (l : List UInt8) (h : l ≠ []) (he : (nextT l).2.2 = 0) : 1 ≤ (nextT l).2.1 ∧ (nextT l).2.1 ≤ l.length := by
  have hlen := List.length_pos_iff.2 h
  have hsg : ∀ q, (if signN l > 0 then ((⟨4, l.take (signN l), 0, 0, 0⟩ : Tok), signN l, (0 : Int)) else (⟨0, [], 0, 0, 0⟩, 0, 20)) = q → q.2.2 = 0 → 1 ≤ q.2.1 ∧ q.2.1 ≤ l.length := by
    rintro q rfl hq
    split at hq
    · rename_i h0; rw [if_pos h0]; exact ⟨h0, signN_room l h⟩
    · simp at hq
  unfold nextT at he ⊢
  simp only at he ⊢
  by_cases c1 : letterB (l.headD 0).toNat = true ∨ ((l.headD 0).toNat : Int) = 95 ∨ ((l.headD 0).toNat : Int) = 35
  · rw [if_pos c1] at he ⊢
    have hr := runB_le nameB l
    have hp : 1 ≤ runB nameB l := runB_pos nameB l h (name_first _ c1)
    by_cases c2 : runB nameB l = l.length ∨ (l.getD (runB nameB l) 0).toNat ≠ 58
    · rw [if_pos c2]; exact ⟨hp, hr⟩
    · rw [if_neg c2] at he ⊢
      have c2' : runB nameB l ≠ l.length := fun e => c2 (.inl e)
      by_cases c3 : allB wordB (l.take (runB nameB l)) = true
      · rw [if_pos c3]; simp only; omega
      · rw [if_neg c3] at he; simp at he
  · rw [if_neg c1] at he ⊢
    by_cases c2 : digitB (l.headD 0).toNat = true
    · rw [if_pos c2] at he ⊢
      exact ⟨runB_pos wordB l h (by unfold wordB; simp only [c2]; simp), runB_le wordB l⟩
    · rw [if_neg c2] at he ⊢
      by_cases c3 : ((l.headD 0).toNat : Int) = 34
      · rw [if_pos c3] at he ⊢
        have := qtA_room _ _ _ _ he
        simp only [List.length_drop] at this ⊢
        omega
      · rw [if_neg c3] at he ⊢
        by_cases c4 : ((l.headD 0).toNat : Int) = 38 ∧ 1 < l.length ∧ (letterB (l.getD 1 0).toNat = true ∨ (l.getD 1 0).toNat = 95)
        · rw [if_pos c4] at he ⊢
          have := runB_le wordB (l.drop 1)
          simp only [List.length_drop] at this ⊢
          omega
        · rw [if_neg c4] at he ⊢
          by_cases c5 : ((l.headD 0).toNat : Int) = 47
          · rw [if_pos c5] at he ⊢
            by_cases c6 : runB smallB (l.drop 1) > 0 ∧ runB smallB (l.drop 1) + 1 < l.length ∧ (l.getD (runB smallB (l.drop 1) + 1) 0).toNat = 47
            · rw [if_pos c6]; simp only; omega
            · rw [if_neg c6] at he ⊢; exact hsg _ rfl he
          · rw [if_neg c5] at he ⊢; exact hsg _ rfl he
end Go.Proofs.YtofhcgbihonckaaGreat
namespace Go.Proofs.YtofhcgbihonckaaGreat
theorem blk_fuel : ∀ (f : Nat) (l : List UInt8), l.length ≤ f → blk f l = blk l.length l := by
  have key : ∀ (n : Nat) (l : List UInt8), l.length ≤ n → ∀ f g, l.length ≤ f → l.length ≤ g → blk f l = blk g l := by
    intro n
    induction n with
    | zero =>
      intro l hl f g hf hg
      have : l = [] := List.length_eq_zero_iff.1 (by omega)
      subst this
      cases f <;> cases g <;> simp [blk]
    | succ n ih =>
      intro l hl f g hf hg
      cases l with
      | nil => cases f <;> cases g <;> simp [blk]
      | cons c r =>
        simp only [List.length_cons] at hl hf hg
        obtain ⟨f, rfl⟩ : ∃ f', f = f' + 1 := ⟨f - 1, by omega⟩
        obtain ⟨g, rfl⟩ : ∃ f', g = f' + 1 := ⟨g - 1, by omega⟩
        simp only [blk]
        by_cases h1 : sepB c.toNat = true
        · rw [if_pos h1, if_pos h1, ih r (by omega) f g (by omega) (by omega)]
        · rw [if_neg h1, if_neg h1]
          by_cases h2 : Lib.hasPrefix (c :: r) [47, 47] = true
          · rw [if_pos h2, if_pos h2]
            have hp := Lib.hasPrefix_le h2
            have hk : 1 ≤ runB notNlB (c :: r) := by
              rw [runB_cons]
              have : notNlB c.toNat = true := by
                have h3 : c = 47 := by simp [Lib.hasPrefix] at h2; exact h2.1.symm
                subst h3; decide
              rw [if_pos this]; omega
            rw [ih ((c :: r).drop (runB notNlB (c :: r))) (by simp; omega) f g (by simp; omega) (by simp; omega)]
          · rw [if_neg h2, if_neg h2]
            by_cases h3 : Lib.hasPrefix (c :: r) [47, 42] = true
            · rw [if_pos h3, if_pos h3]
              by_cases h4 : Lib.index ((c :: r).drop 2) [42, 47] < 0
              · rw [if_pos h4, if_pos h4]
              · rw [if_neg h4, if_neg h4]
                rw [ih ((c :: r).drop ((Lib.index ((c :: r).drop 2) [42, 47]).toNat + 4)) (by simp; omega) f g (by simp; omega) (by simp; omega)]
            · rw [if_neg h3, if_neg h3]
  intro f l h
  exact key l.length l (Nat.le_refl _) f l.length h (Nat.le_refl _)
def gapC (c : UInt8) : Prop := c = 32 ∨ c = 10 ∨ c = 9 ∨ c = 13
theorem blk_sep1 (n : Nat) (c : UInt8) (r : List UInt8) (hc : gapC c) : blk (n + 1) (c :: r) = ((blk n r).1 + 1, (blk n r).2) := by
  rcases hc with rfl | rfl | rfl | rfl <;> kernel_rfl
def White (x : List UInt8) : Prop := ∀ r, blk (x ++ r).length (x ++ r) = (x.length + (blk r.length r).1, (blk r.length r).2)
theorem White.append {x y : List UInt8} (hx : White x) (hy : White y) : White (x ++ y) := by
  intro r
  rw [List.append_assoc, hx, hy]
  simp only [List.length_append]
  rw [Nat.add_assoc]
theorem White.one {c : UInt8} (hc : gapC c) : White [c] := by
  intro r
  rw [show ([c] ++ r) = c :: r from rfl, List.length_cons, blk_sep1 _ _ _ hc]
  simp; omega
theorem White.of {x : List UInt8} (k m : Nat) (hl : x.length = m) (h : ∀ n r, blk (n + k) (x ++ r) = ((blk n r).1 + m, (blk n r).2)) : White x := by
  intro r
  rw [← blk_fuel ((x ++ r).length + k) (x ++ r) (by omega), h, blk_fuel _ r (by simp), hl]
  simp; omega
theorem White.nil : White [] := by intro r; simp
theorem g32 : gapC 32 := .inl rfl
theorem rdA_white {x : List UInt8} (hx : White x) (file : Int) (f : Nat) (r : List UInt8) (p : Int × Int) (acc : List Tok) :
    rdA file (f + 1) (x ++ r) p acc = rdA file (f + 1) r (adv x p) acc := by
  have ht : (x ++ r).take (x.length + (blk r.length r).1) = x ++ r.take (blk r.length r).1 := by rw [List.take_append, List.take_of_length_le (by omega)]; simp
  have hd : (x ++ r).drop (x.length + (blk r.length r).1) = r.drop (blk r.length r).1 := by rw [List.drop_append]; simp
  simp only [rdA, hx r, ht, hd, adv_append]
def bare (t : Tok) : Int × List UInt8 × Int := (t.kind, t.text, t.value)
end Go.Proofs.YtofhcgbihonckaaGreat
namespace Go.Proofs.YtofhcgbihonckaaGreat
end Go.Proofs.YtofhcgbihonckaaGreat
namespace Go.Proofs.YtofhcgbihonckaaGreat
end Go.Proofs.YtofhcgbihonckaaGreat
namespace Go.Proofs.YtofhcgbihonckaaGreat
def digCh (cap : Bool) (d : Nat) : UInt8 := if d < 10 then (48 + d).toUInt8 else if cap then (55 + d).toUInt8 else (87 + d).toUInt8
def digitsT (base : Nat) (cap : Bool) : Nat → Nat → List UInt8 → List UInt8
  | 0, _, acc => acc
  | f + 1, n, acc => if n = 0 then acc else digitsT base cap f (n / base) (digCh cap (n % base) :: acc)
def basedT (base : Nat) (cap : Bool) (n : Nat) : List UInt8 := digitsT base cap (n / base) (n / base) [digCh cap (n % base)]
end Go.Proofs.YtofhcgbihonckaaGreat
namespace Go.Proofs.YtofhcgbihonckaaGreat
theorem digitsT_acc (base : Nat) (cap : Bool) : ∀ (f n : Nat) (acc : List UInt8), digitsT base cap f n acc = digitsT base cap f n [] ++ acc := by
  intro f
  induction f with
  | zero => intro n acc; simp [digitsT]
  | succ f ih =>
    intro n acc
    simp only [digitsT]
    split
    · simp
    · rw [ih (n / base) (digCh cap (n % base) :: acc), ih (n / base) [digCh cap (n % base)]]; simp
theorem digitsT_fuel (base : Nat) (cap : Bool) (hb : 2 ≤ base) : ∀ (f g n : Nat) (acc : List UInt8), n ≤ f → n ≤ g → digitsT base cap f n acc = digitsT base cap g n acc := by
  intro f
  induction f with
  | zero =>
    intro g n acc h _
    obtain rfl : n = 0 := by omega
    cases g <;> simp [digitsT]
  | succ f ih =>
    intro g n acc h h'
    cases g with
    | zero => obtain rfl : n = 0 := by omega
              simp [digitsT]
    | succ g =>
      simp only [digitsT]
      split
      · rfl
      · rename_i hn
        have : n / base < n := Nat.div_lt_self (by omega) (by omega)
        exact ih g _ _ (by omega) (by omega)
theorem basedT_small (base : Nat) (cap : Bool) (n : Nat) (h : n < base) : basedT base cap n = [digCh cap n] := by
  unfold basedT; rw [Nat.div_eq_of_lt h, Nat.mod_eq_of_lt h]; rfl
theorem basedT_great (base : Nat) (cap : Bool) (hb : 2 ≤ base) (n : Nat) (h : base ≤ n) : basedT base cap n = basedT base cap (n / base) ++ [digCh cap (n % base)] := by
  have hq : 1 ≤ n / base := (Nat.one_le_div_iff (by omega)).2 h
  obtain ⟨q, hq'⟩ : ∃ q, n / base = q := ⟨_, rfl⟩
  unfold basedT
  rw [hq'] at hq ⊢
  obtain ⟨p, rfl⟩ : ∃ p, q = p + 1 := ⟨q - 1, by omega⟩
  rw [digitsT_acc, digitsT.eq_2]
  rw [if_neg (by omega)]
  congr 1
  have : (p + 1) / base < p + 1 := Nat.div_lt_self (by omega) (by omega)
  exact digitsT_fuel base cap hb _ _ _ _ (by omega) (by omega)
theorem digCh_hex (cap : Bool) (d : Nat) (h : d < 16) : hexV (digCh cap d).toNat = d := by
  have : ∀ (c : Bool) (x : Fin 16), hexV (digCh c x).toNat = ((x.val : Nat) : Int) := by decide +kernel
  exact this cap ⟨d, h⟩
theorem digCh_word (cap : Bool) (d : Nat) (h : d < 16) : wordB (digCh cap d).toNat = true := by
  have : ∀ (c : Bool) (x : Fin 16), wordB (digCh c x).toNat = true := by decide +kernel
  exact this cap ⟨d, h⟩
theorem digCh_dec (d : Nat) (h : d < 10) : digitB (digCh false d).toNat = true ∧ (d ≠ 0 → (digCh false d).toNat ≠ 48) ∧ (digCh false d).toNat ≠ 120 := by
  have : ∀ (x : Fin 10), digitB (digCh false x).toNat = true ∧ (x.val ≠ 0 → (digCh false x).toNat ≠ 48) ∧ (digCh false x).toNat ≠ 120 := by decide +kernel
  exact this ⟨d, h⟩
theorem numFold_snoc (base : Int) (x : UInt8) : ∀ (l : List UInt8) (n : Int), numFold base (l ++ [x]) n = (numFold base l n).bind fun m => numFold base [x] m := by
  intro l
  induction l with
  | nil => intro n; rfl
  | cons c l ih =>
    intro n
    simp only [List.cons_append, numFold]
    split
    · rfl
    · exact ih _
theorem numFold_based (base : Nat) (cap : Bool) (hb : base = 8 ∨ base = 10 ∨ base = 16) : ∀ (k n : Nat), n ≤ k → numFold base (basedT base cap n) 0 = some (min (n : Int) 4294967296) := by
  intro k
  induction k with
  | zero =>
    intro n h
    obtain rfl : n = 0 := by omega
    rw [basedT_small base cap 0 (by omega)]
    simp only [numFold]
    rw [digCh_hex cap 0 (by omega), if_neg (by omega)]
    simp
  | succ k ih =>
    intro n h
    rcases Nat.lt_or_ge n base with hlt | hge
    · rw [basedT_small base cap n hlt]
      simp only [numFold]
      rw [digCh_hex cap n (by omega), if_neg (by omega)]
      simp
    · have hlt2 : n / base < n := Nat.div_lt_self (by omega) (by omega)
      have hm : n % base < base := Nat.mod_lt _ (by omega)
      have hd := Nat.div_add_mod n base
      rw [basedT_great base cap (by omega) n hge, numFold_snoc, ih (n / base) (by omega)]
      simp only [Option.bind_some, numFold]
      rw [digCh_hex cap (n % base) (by omega), if_neg (by omega)]
      congr 1
      rcases hb with rfl | rfl | rfl <;> omega
theorem basedT_all (base : Nat) (cap : Bool) (hb : 2 ≤ base) (hb2 : base ≤ 16) (p : UInt8 → Prop) (hp : ∀ d, d < base → p (digCh cap d)) : ∀ (k n : Nat), n ≤ k → ∀ x ∈ basedT base cap n, p x := by
  intro k
  induction k with
  | zero =>
    intro n h x hx
    obtain rfl : n = 0 := by omega
    rw [basedT_small base cap 0 (by omega)] at hx
    simp at hx; subst hx; exact hp 0 (by omega)
  | succ k ih =>
    intro n h x hx
    rcases Nat.lt_or_ge n base with hlt | hge
    · rw [basedT_small base cap n hlt] at hx
      simp at hx; subst hx; exact hp n hlt
    · have hlt2 : n / base < n := Nat.div_lt_self (by omega) (by omega)
      rw [basedT_great base cap hb n hge] at hx
      rcases List.mem_append.1 hx with hx | hx
      · exact ih _ (by omega) x hx
      · simp at hx; subst hx; exact hp _ (Nat.mod_lt _ (by omega))
theorem basedT_ne (base : Nat) (cap : Bool) (hb : 2 ≤ base) (n : Nat) : basedT base cap n ≠ [] := by
  rcases Nat.lt_or_ge n base with hlt | hge
  · rw [basedT_small base cap n hlt]; simp
  · rw [basedT_great base cap hb n hge]; simp
theorem basedT_head : ∀ (k n : Nat), n ≤ k → n ≠ 0 → ((basedT 10 false n).headD 0).toNat ≠ 48 := by
  intro k
  induction k with
  | zero => intro n h h0; omega
  | succ k ih =>
    intro n h h0
    rcases Nat.lt_or_ge n 10 with hlt | hge
    · rw [basedT_small 10 false n hlt]; exact (digCh_dec n hlt).2.1 h0
    · rw [basedT_great 10 false (by omega) n hge]
      have := ih (n / 10) (by omega) (by omega)
      have hne := basedT_ne 10 false (by omega) (n / 10)
      cases hb : basedT 10 false (n / 10) with
      | nil => exact absurd hb hne
      | cons a l => rw [hb] at this; simpa using this
theorem blk_begin {f : Nat} {c : UInt8} {r : List UInt8} (h : sepB c.toNat = false) (h2 : c.toNat ≠ 47) : blk f (c :: r) = (0, false) := by
  have hc : (47 : UInt8) ≠ c := by rintro rfl; exact h2 rfl
  cases f with
  | zero => rfl
  | succ f =>
    simp only [blk]
    rw [if_neg (by simp [h]), if_neg (by simp [Lib.hasPrefix, hc]), if_neg (by simp [Lib.hasPrefix, hc])]
theorem digit_no (c : Int) (h : digitB c = true) : sepB c = false ∧ c ≠ 47 ∧ ¬ (letterB c = true ∨ c = 95 ∨ c = 35) := by
  unfold digitB at h
  simp only [decide_eq_true_eq] at h
  refine ⟨?_, by omega, ?_⟩
  · unfold sepB memB; simp; omega
  · rintro (h' | h' | h')
    · unfold letterB at h'; simp at h'; omega
    · omega
    · omega
theorem numT_dec (n : Nat) : numT (basedT 10 false n) = numR (some (min (n : Int) 4294967296)) := by
  have hne := basedT_ne 10 false (by omega) n
  have hp : numParts (basedT 10 false n) = (10, basedT 10 false n) := by
    unfold numParts
    have hx : Lib.hasPrefix (basedT 10 false n) [48, 120] = false := by
      have hall := basedT_all 10 false (by omega) (by omega) (fun x => x.toNat ≠ 120) (fun d hd => (digCh_dec d hd).2.2) n n (Nat.le_refl _)
      cases hb : basedT 10 false n with
      | nil => rfl
      | cons a l =>
        cases l with
        | nil => simp [Lib.hasPrefix, List.isPrefixOf]
        | cons b l =>
          rw [hb] at hall
          have := hall b (by simp)
          have hb' : (120 : UInt8) ≠ b := by rintro rfl; exact this rfl
          simp [Lib.hasPrefix, List.isPrefixOf, hb']
    rw [if_neg (by simp [hx]), if_neg]
    rintro ⟨h1, h2⟩
    by_cases h0 : n = 0
    · subst h0; rw [basedT_small 10 false 0 (by omega)] at h1; simp at h1
    · exact basedT_head n n (Nat.le_refl _) h0 (by rw [h2]; rfl)
  unfold numT
  rw [hp]
  simp only []
  rw [if_neg hne]
  have := numFold_based 10 false (by omega) n n (Nat.le_refl _)
  rw [← this]; rfl
end Go.Proofs.YtofhcgbihonckaaGreat
namespace Go.Proofs.YtofhcgbihonckaaGreat
def Lx (x : List UInt8) (T : List (Int × List UInt8 × Int)) (r : List UInt8) : Prop :=
  ∀ (f : Nat) (p : Int × Int) (acc : List Tok), (x ++ r).length ≤ f → acc.length + T.length ≤ 6000 →
    ∃ (f' : Nat) (p' : Int × Int) (Ts : List Tok), r.length ≤ f' ∧ rdA 0 (f + 1) (x ++ r) p acc = rdA 0 (f' + 1) r p' (acc ++ Ts) ∧ Ts.map bare = T
theorem Lx.nil (r : List UInt8) : Lx [] [] r := by
  intro f p acc hf _
  exact ⟨f, p, [], by simpa using hf, by simp, rfl⟩
theorem Lx.append {x y r : List UInt8} {T U : List (Int × List UInt8 × Int)} (h : Lx x T (y ++ r)) (k : Lx y U r) : Lx (x ++ y) (T ++ U) r := by
  intro f p acc hf ha
  simp only [List.length_append] at ha
  obtain ⟨f1, p1, T1, h1, e1, m1⟩ := h f p acc (by simpa using hf) (by omega)
  have hT1 : T1.length = T.length := by rw [← m1]; simp
  obtain ⟨f2, p2, T2, h2, e2, m2⟩ := k f1 p1 (acc ++ T1) h1 (by simp; omega)
  refine ⟨f2, p2, T1 ++ T2, h2, ?_, by simp [m1, m2]⟩
  rw [List.append_assoc, e1, e2, List.append_assoc]
theorem Lx.white {x : List UInt8} (hx : White x) (r : List UInt8) : Lx x [] r := by
  intro f p acc hf _
  exact ⟨f, adv x p, [], by simp at hf; omega, by rw [rdA_white hx]; simp, rfl⟩
theorem Lx.sp (r : List UInt8) : Lx [32] [] r := .white (.one g32) r
theorem Lx.tok {x r : List UInt8} {t : Tok} (hx : x ≠ []) (hb : blk (x ++ r).length (x ++ r) = (0, false)) (hn : nextT (x ++ r) = (t, x.length, 0)) : Lx x [bare t] r := by
  intro f p acc hf ha
  have hp := List.length_pos_iff.2 hx
  simp only [List.length_append] at hf
  simp only [List.length_cons, List.length_nil] at ha
  obtain ⟨g, rfl⟩ : ∃ g, f = g + 1 := ⟨f - 1, by omega⟩
  refine ⟨g, adv x p, [{ t with line := p.1, col := p.2 }], by omega, ?_, rfl⟩
  rw [rdA]
  simp only [hb, List.drop_zero, List.take_zero, adv]
  rw [if_neg (by simp), if_neg (by omega), if_neg (fun e => hx (List.append_eq_nil_iff.1 e).1), hn]
  simp only []
  rw [if_neg (by simp), List.drop_left, List.take_left]
theorem Lx.one {c : UInt8} {r : List UInt8} (hb : blk 1 (c :: r) = (0, false)) (hb2 : sepB c.toNat = false ∧ c.toNat ≠ 47) (hn : nextT (c :: r) = (⟨4, [c], 0, 0, 0⟩, 1, 0)) : Lx [c] [(4, [c], 0)] r :=
  Lx.tok (t := ⟨4, [c], 0, 0, 0⟩) (by simp) (by have := blk_begin (f := ([c] ++ r).length) (r := r) hb2.1 hb2.2; exact this) hn
theorem Lx.lpar (r : List UInt8) : Lx [40] [(4, [40], 0)] r := .one (by kernel_rfl) (by decide) (by kernel_rfl)
theorem Lx.rpar (r : List UInt8) : Lx [41] [(4, [41], 0)] r := .one (by kernel_rfl) (by decide) (by kernel_rfl)
theorem Lx.minus (r : List UInt8) : Lx [45] [(4, [45], 0)] r := .one (by kernel_rfl) (by decide) (by kernel_rfl)
theorem Lx.compl (r : List UInt8) : Lx [126] [(4, [126], 0)] r := .one (by kernel_rfl) (by decide) (by kernel_rfl)
theorem Lx.quest (r : List UInt8) : Lx [63] [(4, [63], 0)] r := .one (by kernel_rfl) (by decide) (by kernel_rfl)
theorem Lx.colon (r : List UInt8) : Lx [58] [(4, [58], 0)] r := .one (by kernel_rfl) (by decide) (by kernel_rfl)
theorem Lx.bang (r : List UInt8) : Lx [33] [(4, [33], 0)] (40 :: r) := .one (by kernel_rfl) (by decide) (by kernel_rfl)
def signsX : List (List UInt8) := [[42], [47], [37], [43], [45], [60, 60], [62, 62], [60], [62], [60, 61], [62, 61], [61, 61], [33, 61], [38], [94], [124], [38, 38], [124, 124]]
theorem Lx.sign (r : List UInt8) : ∀ s ∈ signsX, Lx s [(4, s, 0)] (32 :: r) := by
  intro s hs
  have h1 : s ≠ [] ∧ blk (s ++ 32 :: r).length (s ++ 32 :: r) = (0, false) ∧ nextT (s ++ 32 :: r) = (⟨4, s, 0, 0, 0⟩, s.length, 0) := by
    simp only [signsX, List.mem_cons, List.not_mem_nil, or_false] at hs
    rcases hs with rfl | rfl | rfl | rfl | rfl | rfl | rfl | rfl | rfl | rfl | rfl | rfl | rfl | rfl | rfl | rfl | rfl | rfl <;> exact ⟨by simp, by kernel_rfl, by kernel_rfl⟩
  exact Lx.tok h1.1 h1.2.1 h1.2.2
theorem runB_stop (p : Int → Bool) (r : List UInt8) : ∀ l : List UInt8, (∀ x ∈ l, p x.toNat = true) → (r = [] ∨ p (r.headD 0).toNat = false) → runB p (l ++ r) = l.length := by
  intro l
  induction l with
  | nil =>
    intro _ h
    rcases h with rfl | h
    · rfl
    · cases r with
      | nil => rfl
      | cons c r => rw [List.nil_append, runB_cons, if_neg (by simpa using h)]; rfl
  | cons c l ih => intro h h2; rw [List.cons_append, runB_cons, if_pos (h c (by simp)), ih (fun x hx => h x (by simp [hx])) h2]; rfl
theorem Lx.num {x r : List UInt8} {v : Int} (hl : x ≠ []) (hw : ∀ c ∈ x, wordB c.toNat = true) (hd : digitB (x.headD 0).toNat = true) (hv : numT x = (v, 0)) (hr : r = [] ∨ wordB (r.headD 0).toNat = false) : Lx x [(2, [], v)] r := by
  obtain ⟨h1, h2, h3⟩ := digit_no _ hd
  have hb : blk (x ++ r).length (x ++ r) = (0, false) := by
    cases x with
    | nil => exact absurd rfl hl
    | cons c l => exact blk_begin (by simpa using h1) (by simp at h2; omega)
  have hh : (x ++ r).headD 0 = x.headD 0 := by
    cases x with
    | nil => exact absurd rfl hl
    | cons c l => rfl
  refine Lx.tok (t := ⟨2, [], v, 0, 0⟩) hl hb ?_
  unfold nextT; simp only []; rw [hh, if_neg h3, if_pos hd, runB_stop wordB r x hw hr, List.take_left, hv]
theorem numR_le {n : Nat} (h : n ≤ 4294967295) : numR (some (min (n : Int) 4294967296)) = ((n : Int), 0) := by
  unfold numR
  simp only []
  rw [Int.min_eq_left (by omega), if_neg (by omega)]
theorem Lx.dec {n : Nat} {r : List UInt8} (h : n ≤ 4294967295) (hr : r = [] ∨ wordB (r.headD 0).toNat = false) : Lx (basedT 10 false n) [(2, [], (n : Int))] r :=
  Lx.num (basedT_ne 10 false (by omega) n) (fun c hc => basedT_all 10 false (by omega) (by omega) (fun x => wordB x.toNat = true) (fun d hd => digCh_word false d (by omega)) n n (Nat.le_refl _) c hc)
    (by
      have := basedT_all 10 false (by omega) (by omega) (fun x => digitB x.toNat = true) (fun d hd => (digCh_dec d hd).1) n n (Nat.le_refl _)
      have hne := basedT_ne 10 false (by omega) n
      cases e : basedT 10 false n with
      | nil => exact absurd e hne
      | cons a l => rw [e] at this; exact this a (by simp)) (by rw [numT_dec, numR_le h]) hr
theorem basedT_dec_len : ∀ (m n : Nat), n < 10 ^ (m + 1) → (basedT 10 false n).length ≤ m + 1 := by
  intro m
  induction m with
  | zero => intro n h; rw [basedT_small 10 false n (by omega)]; simp
  | succ m ih =>
    intro n h
    rcases Nat.lt_or_ge n 10 with c | c
    · rw [basedT_small 10 false n c]; simp
    · rw [basedT_great 10 false (by omega) n c]
      have := ih (n / 10) (by rw [Nat.pow_succ] at h; omega)
      simp; omega
theorem basedT_len10 (n : Nat) (h : n ≤ 4294967295) : (basedT 10 false n).length ≤ 10 := basedT_dec_len 9 n (by omega)
end Go.Proofs.YtofhcgbihonckaaGreat
