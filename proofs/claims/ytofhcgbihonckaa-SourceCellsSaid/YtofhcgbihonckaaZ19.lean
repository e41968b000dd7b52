/- Digits of a number, in plain Lean. | Plain laws: what the tokens of a number's digits are. | Plain laws: the tokens of texts put together of pieces. -/
import Derived.Test.YtofhcgbihonckaaZ5

set_option linter.unusedVariables false
set_option linter.unusedSimpArgs false
set_option linter.unusedSectionVars false

namespace Go.Proofs.Ytofhcgbihonckaa

def digCh (cap : Bool) (d : Nat) : UInt8 := if d < 10 then (48 + d).toUInt8 else if cap then (55 + d).toUInt8 else (87 + d).toUInt8
def digitsT (base : Nat) (cap : Bool) : Nat → Nat → List UInt8 → List UInt8
  | 0, _, acc => acc
  | f + 1, n, acc => if n = 0 then acc else digitsT base cap f (n / base) (digCh cap (n % base) :: acc)
def basedT (base : Nat) (cap : Bool) (n : Nat) : List UInt8 := digitsT base cap (n / base) (n / base) [digCh cap (n % base)]

theorem dig_small (d : Nat) (h : d < 16) : (⟨#[48, 49, 50, 51, 52, 53, 54, 55, 56, 57, 97, 98, 99, 100, 101, 102]⟩ : ByteArray).extract d (d + 1) = ⟨#[digCh false d]⟩ := by
  have : ∀ x : Fin 16, (⟨#[48, 49, 50, 51, 52, 53, 54, 55, 56, 57, 97, 98, 99, 100, 101, 102]⟩ : ByteArray).extract x (x + 1) = ⟨#[digCh false x]⟩ := by decide +kernel
  exact this ⟨d, h⟩
theorem dig_great (d : Nat) (h : d < 16) : (⟨#[48, 49, 50, 51, 52, 53, 54, 55, 56, 57, 65, 66, 67, 68, 69, 70]⟩ : ByteArray).extract d (d + 1) = ⟨#[digCh true d]⟩ := by
  have : ∀ x : Fin 16, (⟨#[48, 49, 50, 51, 52, 53, 54, 55, 56, 57, 65, 66, 67, 68, 69, 70]⟩ : ByteArray).extract x (x + 1) = ⟨#[digCh true x]⟩ := by decide +kernel
  exact this ⟨d, h⟩

theorem size_one (x : UInt8) : (⟨#[x]⟩ : ByteArray).size = 1 := rfl
end Go.Proofs.Ytofhcgbihonckaa

namespace Go.Proofs.Ytofhcgbihonckaa

theorem digitsT_acc (base : Nat) (cap : Bool) : ∀ (f n : Nat) (acc : List UInt8), digitsT base cap f n acc = digitsT base cap f n [] ++ acc := by
  intro f
  induction f with
  | zero => intro n acc; simp [digitsT]
  | succ f ih =>
    intro n acc
    simp only [digitsT]
    split
    · simp
    · rw [ih (n / base) (digCh cap (n % base) :: acc), ih (n / base) [digCh cap (n % base)]]; simp
theorem digitsT_fuel (base : Nat) (cap : Bool) (hb : 2 ≤ base) : ∀ (f g n : Nat) (acc : List UInt8), n ≤ f → n ≤ g → digitsT base cap f n acc = digitsT base cap g n acc := by
  intro f
  induction f with
  | zero =>
    intro g n acc h _
    obtain rfl : n = 0 := by omega
    cases g <;> simp [digitsT]
  | succ f ih =>
    intro g n acc h h'
    cases g with
    | zero => obtain rfl : n = 0 := by omega
              simp [digitsT]
    | succ g =>
      simp only [digitsT]
      split
      · rfl
      · rename_i hn
        have : n / base < n := Nat.div_lt_self (by omega) (by omega)
        exact ih g _ _ (by omega) (by omega)
theorem basedT_small (base : Nat) (cap : Bool) (n : Nat) (h : n < base) : basedT base cap n = [digCh cap n] := by
  unfold basedT; rw [Nat.div_eq_of_lt h, Nat.mod_eq_of_lt h]; rfl
theorem basedT_great (base : Nat) (cap : Bool) (hb : 2 ≤ base) (n : Nat) (h : base ≤ n) : basedT base cap n = basedT base cap (n / base) ++ [digCh cap (n % base)] := by
  have hq : 1 ≤ n / base := (Nat.one_le_div_iff (by omega)).2 h
  obtain ⟨q, hq'⟩ : ∃ q, n / base = q := ⟨_, rfl⟩
  unfold basedT
  rw [hq'] at hq ⊢
  obtain ⟨p, rfl⟩ : ∃ p, q = p + 1 := ⟨q - 1, by omega⟩
  rw [digitsT_acc, digitsT.eq_2]
  rw [if_neg (by omega)]
  congr 1
  have : (p + 1) / base < p + 1 := Nat.div_lt_self (by omega) (by omega)
  exact digitsT_fuel base cap hb _ _ _ _ (by omega) (by omega)
theorem digCh_hex (cap : Bool) (d : Nat) (h : d < 16) : hexV (digCh cap d).toNat = d := by
  have : ∀ (c : Bool) (x : Fin 16), hexV (digCh c x).toNat = ((x.val : Nat) : Int) := by decide +kernel
  exact this cap ⟨d, h⟩
theorem digCh_word (cap : Bool) (d : Nat) (h : d < 16) : wordB (digCh cap d).toNat = true := by
  have : ∀ (c : Bool) (x : Fin 16), wordB (digCh c x).toNat = true := by decide +kernel
  exact this cap ⟨d, h⟩
theorem digCh_dec (d : Nat) (h : d < 10) : digitB (digCh false d).toNat = true ∧ (d ≠ 0 → (digCh false d).toNat ≠ 48) ∧ (digCh false d).toNat ≠ 120 := by
  have : ∀ (x : Fin 10), digitB (digCh false x).toNat = true ∧ (x.val ≠ 0 → (digCh false x).toNat ≠ 48) ∧ (digCh false x).toNat ≠ 120 := by decide +kernel
  exact this ⟨d, h⟩
theorem numFold_snoc (base : Int) (x : UInt8) : ∀ (l : List UInt8) (n : Int), numFold base (l ++ [x]) n = (numFold base l n).bind fun m => numFold base [x] m := by
  intro l
  induction l with
  | nil => intro n; rfl
  | cons c l ih =>
    intro n
    simp only [List.cons_append, numFold]
    split
    · rfl
    · exact ih _

theorem numFold_based (base : Nat) (cap : Bool) (hb : base = 8 ∨ base = 10 ∨ base = 16) : ∀ (k n : Nat), n ≤ k → numFold base (basedT base cap n) 0 = some (min (n : Int) 4294967296) := by
  intro k
  induction k with
  | zero =>
    intro n h
    obtain rfl : n = 0 := by omega
    rw [basedT_small base cap 0 (by omega)]
    simp only [numFold]
    rw [digCh_hex cap 0 (by omega), if_neg (by omega)]
    simp
  | succ k ih =>
    intro n h
    rcases Nat.lt_or_ge n base with hlt | hge
    · rw [basedT_small base cap n hlt]
      simp only [numFold]
      rw [digCh_hex cap n (by omega), if_neg (by omega)]
      simp
    · have hlt2 : n / base < n := Nat.div_lt_self (by omega) (by omega)
      have hm : n % base < base := Nat.mod_lt _ (by omega)
      have hd := Nat.div_add_mod n base
      rw [basedT_great base cap (by omega) n hge, numFold_snoc, ih (n / base) (by omega)]
      simp only [Option.bind_some, numFold]
      rw [digCh_hex cap (n % base) (by omega), if_neg (by omega)]
      congr 1
      rcases hb with rfl | rfl | rfl <;> omega

theorem basedT_all (base : Nat) (cap : Bool) (hb : 2 ≤ base) (hb2 : base ≤ 16) (p : UInt8 → Prop) (hp : ∀ d, d < base → p (digCh cap d)) : ∀ (k n : Nat), n ≤ k → ∀ x ∈ basedT base cap n, p x := by
  intro k
  induction k with
  | zero =>
    intro n h x hx
    obtain rfl : n = 0 := by omega
    rw [basedT_small base cap 0 (by omega)] at hx
    simp at hx; subst hx; exact hp 0 (by omega)
  | succ k ih =>
    intro n h x hx
    rcases Nat.lt_or_ge n base with hlt | hge
    · rw [basedT_small base cap n hlt] at hx
      simp at hx; subst hx; exact hp n hlt
    · have hlt2 : n / base < n := Nat.div_lt_self (by omega) (by omega)
      rw [basedT_great base cap hb n hge] at hx
      rcases List.mem_append.1 hx with hx | hx
      · exact ih _ (by omega) x hx
      · simp at hx; subst hx; exact hp _ (Nat.mod_lt _ (by omega))
theorem basedT_len (base : Nat) (cap : Bool) (hb : 2 ≤ base) : ∀ (k n : Nat), n < 2 ^ k → (basedT base cap n).length ≤ k + 1 := by
  intro k
  induction k with
  | zero => intro n h; obtain rfl : n = 0 := by omega
            rw [basedT_small base cap 0 (by omega)]; simp
  | succ k ih =>
    intro n h
    rcases Nat.lt_or_ge n base with hlt | hge
    · rw [basedT_small base cap n hlt]; simp
    · rw [basedT_great base cap hb n hge]
      have : n / base ≤ n / 2 := Nat.div_le_div_left hb (by omega)
      have := ih (n / base) (by rw [Nat.pow_succ] at h; omega)
      simp; omega
theorem basedT_ne (base : Nat) (cap : Bool) (hb : 2 ≤ base) (n : Nat) : basedT base cap n ≠ [] := by
  rcases Nat.lt_or_ge n base with hlt | hge
  · rw [basedT_small base cap n hlt]; simp
  · rw [basedT_great base cap hb n hge]; simp
/-- The first digit of a number in decimal is 0 only for 0. -/
theorem basedT_head : ∀ (k n : Nat), n ≤ k → n ≠ 0 → ((basedT 10 false n).headD 0).toNat ≠ 48 := by
  intro k
  induction k with
  | zero => intro n h h0; omega
  | succ k ih =>
    intro n h h0
    rcases Nat.lt_or_ge n 10 with hlt | hge
    · rw [basedT_small 10 false n hlt]; exact (digCh_dec n hlt).2.1 h0
    · rw [basedT_great 10 false (by omega) n hge]
      have := ih (n / 10) (by omega) (by omega)
      have hne := basedT_ne 10 false (by omega) (n / 10)
      cases hb : basedT 10 false (n / 10) with
      | nil => exact absurd hb hne
      | cons a l => rw [hb] at this; simpa using this

theorem runB_all (p : Int → Bool) : ∀ l : List UInt8, (∀ x ∈ l, p x.toNat = true) → runB p l = l.length := by
  intro l
  induction l with
  | nil => intro _; rfl
  | cons c l ih => intro h; rw [runB_cons, if_pos (h c (by simp)), ih (fun x hx => h x (by simp [hx]))]; rfl

theorem blk_begin {f : Nat} {c : UInt8} {r : List UInt8} (h : sepB c.toNat = false) (h2 : c.toNat ≠ 47) : blk f (c :: r) = (0, false) := by
  have hc : (47 : UInt8) ≠ c := by rintro rfl; exact h2 rfl
  cases f with
  | zero => rfl
  | succ f =>
    simp only [blk]
    rw [if_neg (by simp [h]), if_neg (by simp [Lib.hasPrefix, hc]), if_neg (by simp [Lib.hasPrefix, hc])]
theorem blk_nil (f : Nat) : blk f [] = (0, false) := by cases f <;> rfl

theorem digit_no (c : Int) (h : digitB c = true) : sepB c = false ∧ c ≠ 47 ∧ ¬ (letterB c = true ∨ c = 95 ∨ c = 35) := by
  unfold digitB at h
  simp only [decide_eq_true_eq] at h
  refine ⟨?_, by omega, ?_⟩
  · unfold sepB memB; simp; omega
  · rintro (h' | h' | h')
    · unfold letterB at h'; simp at h'; omega
    · omega
    · omega

/-- A number alone, from a place on. -/
theorem rdA_number (file : Int) (f : Nat) (l : List UInt8) (p : Int × Int) (hl : l ≠ []) (hw : ∀ x ∈ l, wordB x.toNat = true) (hd : digitB (l.headD 0).toNat = true) :
    rdA file (f + 2) l p [] = if (numT l).2 ≠ 0 then ([], (file, p.1, p.2), (numT l).2) else ([⟨2, [], (numT l).1, p.1, p.2⟩, ⟨8, [], 0, (adv l p).1, (adv l p).2⟩], (0, 0, 0), 0) := by
  obtain ⟨h1, h2, h3⟩ := digit_no _ hd
  have hb : blk l.length l = (0, false) := by
    cases l with
    | nil => exact absurd rfl hl
    | cons c r => exact blk_begin (by simpa using h1) (by simp at h2; omega)
  have hn : nextT l = (⟨2, [], (numT l).1, 0, 0⟩, l.length, (numT l).2) := by
    unfold nextT; simp only []; rw [if_neg h3, if_pos hd, runB_all wordB l hw, List.take_length]
  rw [rdA]
  simp only [hb, List.drop_zero, List.take_zero, adv]
  rw [if_neg (by simp), if_neg (by simp), if_neg hl, hn]
  simp only []
  by_cases he : (numT l).2 = 0
  · rw [if_neg (by simp [he]), if_neg (by simp [he])]
    rw [List.drop_length, List.take_length, rdA]
    simp only [List.length_nil, blk_nil, List.drop_nil, List.take_nil, adv]
    simp
  · rw [if_pos he, if_pos he]

theorem readT_number (file : Int) (l : List UInt8) (hl : l ≠ []) (hlen : l.length ≤ 16000) (hw : ∀ x ∈ l, wordB x.toNat = true) (hd : digitB (l.headD 0).toNat = true) :
    readT l file = if (numT l).2 ≠ 0 then ([], (file, 1, 1), (numT l).2) else ([⟨2, [], (numT l).1, 1, 1⟩, ⟨8, [], 0, (adv l (1, 1)).1, (adv l (1, 1)).2⟩], (0, 0, 0), 0) := by
  unfold readT
  have := List.length_pos_iff.2 hl
  rw [if_neg (by omega), show l.length + 1 = (l.length - 1) + 2 from by omega, rdA_number file _ l (1, 1) hl hw hd]

theorem numT_dec (n : Nat) : numT (basedT 10 false n) = numR (some (min (n : Int) 4294967296)) := by
  have hne := basedT_ne 10 false (by omega) n
  have hp : numParts (basedT 10 false n) = (10, basedT 10 false n) := by
    unfold numParts
    have hx : Lib.hasPrefix (basedT 10 false n) [48, 120] = false := by
      have hall := basedT_all 10 false (by omega) (by omega) (fun x => x.toNat ≠ 120) (fun d hd => (digCh_dec d hd).2.2) n n (Nat.le_refl _)
      cases hb : basedT 10 false n with
      | nil => rfl
      | cons a l =>
        cases l with
        | nil => simp [Lib.hasPrefix, List.isPrefixOf]
        | cons b l =>
          rw [hb] at hall
          have := hall b (by simp)
          have hb' : (120 : UInt8) ≠ b := by rintro rfl; exact this rfl
          simp [Lib.hasPrefix, List.isPrefixOf, hb']
    rw [if_neg (by simp [hx]), if_neg]
    rintro ⟨h1, h2⟩
    by_cases h0 : n = 0
    · subst h0; rw [basedT_small 10 false 0 (by omega)] at h1; simp at h1
    · exact basedT_head n n (Nat.le_refl _) h0 (by rw [h2]; rfl)
  unfold numT
  rw [hp]
  simp only []
  rw [if_neg hne]
  have := numFold_based 10 false (by omega) n n (Nat.le_refl _)
  rw [← this]; rfl
theorem numT_oct (n : Nat) : numT (48 :: basedT 8 false n) = numR (some (min (n : Int) 4294967296)) := by
  have hne := basedT_ne 8 false (by omega) n
  have hp : numParts (48 :: basedT 8 false n) = (8, basedT 8 false n) := by
    unfold numParts
    have hall := basedT_all 8 false (by omega) (by omega) (fun x => x.toNat ≠ 120) (fun d hd => (digCh_dec d (by omega)).2.2) n n (Nat.le_refl _)
    cases hb : basedT 8 false n with
    | nil => exact absurd hb hne
    | cons b l =>
      rw [hb] at hall
      have := hall b (by simp)
      have hb' : (120 : UInt8) ≠ b := by rintro rfl; exact this rfl
      simp [Lib.hasPrefix, hb']
  unfold numT
  rw [hp]
  simp only []
  rw [if_neg hne]
  have := numFold_based 8 false (by omega) n n (Nat.le_refl _)
  rw [← this]; rfl
theorem numT_hex (n : Nat) (cap : Bool) : numT (48 :: 120 :: basedT 16 cap n) = numR (some (min (n : Int) 4294967296)) := by
  have hne := basedT_ne 16 cap (by omega) n
  have hp : numParts (48 :: 120 :: basedT 16 cap n) = (16, basedT 16 cap n) := by
    unfold numParts
    simp [Lib.hasPrefix]
  unfold numT
  rw [hp]
  simp only []
  rw [if_neg hne]
  have := numFold_based 16 cap (by omega) n n (Nat.le_refl _)
  rw [← this]; rfl
end Go.Proofs.Ytofhcgbihonckaa

namespace Go.Proofs.Ytofhcgbihonckaa

/-- In front of r the bytes x give the tokens T. -/
def Lx (x : List UInt8) (T : List (Int × List UInt8 × Int)) (r : List UInt8) : Prop :=
  ∀ (f : Nat) (p : Int × Int) (acc : List Tok), (x ++ r).length ≤ f → acc.length + T.length ≤ 6000 →
    ∃ (f' : Nat) (p' : Int × Int) (Ts : List Tok), r.length ≤ f' ∧ rdA 0 (f + 1) (x ++ r) p acc = rdA 0 (f' + 1) r p' (acc ++ Ts) ∧ Ts.map bare = T
theorem Lx.nil (r : List UInt8) : Lx [] [] r := by
  intro f p acc hf _
  exact ⟨f, p, [], by simpa using hf, by simp, rfl⟩
theorem Lx.append {x y r : List UInt8} {T U : List (Int × List UInt8 × Int)} (h : Lx x T (y ++ r)) (k : Lx y U r) : Lx (x ++ y) (T ++ U) r := by
  intro f p acc hf ha
  simp only [List.length_append] at ha
  obtain ⟨f1, p1, T1, h1, e1, m1⟩ := h f p acc (by simpa using hf) (by omega)
  have hT1 : T1.length = T.length := by rw [← m1]; simp
  obtain ⟨f2, p2, T2, h2, e2, m2⟩ := k f1 p1 (acc ++ T1) h1 (by simp; omega)
  refine ⟨f2, p2, T1 ++ T2, h2, ?_, by simp [m1, m2]⟩
  rw [List.append_assoc, e1, e2, List.append_assoc]
theorem Lx.white {x : List UInt8} (hx : White x) (r : List UInt8) : Lx x [] r := by
  intro f p acc hf _
  exact ⟨f, adv x p, [], by simp at hf; omega, by rw [rdA_white hx]; simp, rfl⟩
theorem Lx.sp (r : List UInt8) : Lx [32] [] r := .white (.one g32) r
theorem Lx.tok {x r : List UInt8} {t : Tok} (hx : x ≠ []) (hb : blk (x ++ r).length (x ++ r) = (0, false)) (hn : nextT (x ++ r) = (t, x.length, 0)) : Lx x [bare t] r := by
  intro f p acc hf ha
  have hp := List.length_pos_iff.2 hx
  simp only [List.length_append] at hf
  simp only [List.length_cons, List.length_nil] at ha
  obtain ⟨g, rfl⟩ : ∃ g, f = g + 1 := ⟨f - 1, by omega⟩
  refine ⟨g, adv x p, [{ t with line := p.1, col := p.2 }], by omega, ?_, rfl⟩
  rw [rdA]
  simp only [hb, List.drop_zero, List.take_zero, adv]
  rw [if_neg (by simp), if_neg (by omega), if_neg (fun e => hx (List.append_eq_nil_iff.1 e).1), hn]
  simp only []
  rw [if_neg (by simp), List.drop_left, List.take_left]
theorem Lx.read {x : List UInt8} {T : List (Int × List UInt8 × Int)} (h : Lx x T []) (hl : x.length ≤ 16000) (hT : T.length < 6000) : ∃ toks : List Tok, readT x 0 = (toks, (0, 0, 0), 0) ∧ toks.map bare = T ++ [(8, [], 0)] := by
  obtain ⟨f, p, Ts, h1, e, m⟩ := h x.length (1, 1) [] (by simp) (by simpa using Nat.le_of_lt hT)
  have hTs : Ts.length = T.length := by rw [← m]; simp
  refine ⟨Ts ++ [⟨8, [], 0, p.1, p.2⟩], ?_, by simp [m, bare]⟩
  unfold readT
  rw [if_neg (by omega)]
  simp only [List.append_nil, List.nil_append] at e
  rw [e, rdA]
  simp only [List.length_nil, blk_nil, List.drop_nil, List.take_nil, adv]
  rw [if_neg (by simp), if_neg (by omega)]
  simp
/-- A sign of one byte, whatever follows. -/
theorem Lx.one {c : UInt8} {r : List UInt8} (hb : blk 1 (c :: r) = (0, false)) (hb2 : sepB c.toNat = false ∧ c.toNat ≠ 47) (hn : nextT (c :: r) = (⟨4, [c], 0, 0, 0⟩, 1, 0)) : Lx [c] [(4, [c], 0)] r :=
  Lx.tok (t := ⟨4, [c], 0, 0, 0⟩) (by simp) (by have := blk_begin (f := ([c] ++ r).length) (r := r) hb2.1 hb2.2; exact this) hn
theorem Lx.lpar (r : List UInt8) : Lx [40] [(4, [40], 0)] r := .one (by kernel_rfl) (by decide) (by kernel_rfl)
theorem Lx.rpar (r : List UInt8) : Lx [41] [(4, [41], 0)] r := .one (by kernel_rfl) (by decide) (by kernel_rfl)
theorem Lx.minus (r : List UInt8) : Lx [45] [(4, [45], 0)] r := .one (by kernel_rfl) (by decide) (by kernel_rfl)
theorem Lx.compl (r : List UInt8) : Lx [126] [(4, [126], 0)] r := .one (by kernel_rfl) (by decide) (by kernel_rfl)
theorem Lx.quest (r : List UInt8) : Lx [63] [(4, [63], 0)] r := .one (by kernel_rfl) (by decide) (by kernel_rfl)
theorem Lx.colon (r : List UInt8) : Lx [58] [(4, [58], 0)] r := .one (by kernel_rfl) (by decide) (by kernel_rfl)
theorem Lx.bang (r : List UInt8) : Lx [33] [(4, [33], 0)] (40 :: r) := .one (by kernel_rfl) (by decide) (by kernel_rfl)
/-- The signs between two operands. -/
def signsX : List (List UInt8) := [[42], [47], [37], [43], [45], [60, 60], [62, 62], [60], [62], [60, 61], [62, 61], [61, 61], [33, 61], [38], [94], [124], [38, 38], [124, 124]]
theorem Lx.sign (r : List UInt8) : ∀ s ∈ signsX, Lx s [(4, s, 0)] (32 :: r) := by
  intro s hs
  have h1 : s ≠ [] ∧ blk (s ++ 32 :: r).length (s ++ 32 :: r) = (0, false) ∧ nextT (s ++ 32 :: r) = (⟨4, s, 0, 0, 0⟩, s.length, 0) := by
    simp only [signsX, List.mem_cons, List.not_mem_nil, or_false] at hs
    rcases hs with rfl | rfl | rfl | rfl | rfl | rfl | rfl | rfl | rfl | rfl | rfl | rfl | rfl | rfl | rfl | rfl | rfl | rfl <;> exact ⟨by simp, by kernel_rfl, by kernel_rfl⟩
  exact Lx.tok h1.1 h1.2.1 h1.2.2
theorem runB_stop (p : Int → Bool) (r : List UInt8) : ∀ l : List UInt8, (∀ x ∈ l, p x.toNat = true) → (r = [] ∨ p (r.headD 0).toNat = false) → runB p (l ++ r) = l.length := by
  intro l
  induction l with
  | nil =>
    intro _ h
    rcases h with rfl | h
    · rfl
    · cases r with
      | nil => rfl
      | cons c r => rw [List.nil_append, runB_cons, if_neg (by simpa using h)]; rfl
  | cons c l ih => intro h h2; rw [List.cons_append, runB_cons, if_pos (h c (by simp)), ih (fun x hx => h x (by simp [hx])) h2]; rfl
theorem Lx.num {x r : List UInt8} {v : Int} (hl : x ≠ []) (hw : ∀ c ∈ x, wordB c.toNat = true) (hd : digitB (x.headD 0).toNat = true) (hv : numT x = (v, 0)) (hr : r = [] ∨ wordB (r.headD 0).toNat = false) : Lx x [(2, [], v)] r := by
  obtain ⟨h1, h2, h3⟩ := digit_no _ hd
  have hb : blk (x ++ r).length (x ++ r) = (0, false) := by
    cases x with
    | nil => exact absurd rfl hl
    | cons c l => exact blk_begin (by simpa using h1) (by simp at h2; omega)
  have hh : (x ++ r).headD 0 = x.headD 0 := by
    cases x with
    | nil => exact absurd rfl hl
    | cons c l => rfl
  refine Lx.tok (t := ⟨2, [], v, 0, 0⟩) hl hb ?_
  unfold nextT; simp only []; rw [hh, if_neg h3, if_pos hd, runB_stop wordB r x hw hr, List.take_left, hv]
theorem numR_le {n : Nat} (h : n ≤ 4294967295) : numR (some (min (n : Int) 4294967296)) = ((n : Int), 0) := by
  unfold numR
  simp only []
  rw [Int.min_eq_left (by omega), if_neg (by omega)]
/-- A decimal. -/
theorem Lx.dec {n : Nat} {r : List UInt8} (h : n ≤ 4294967295) (hr : r = [] ∨ wordB (r.headD 0).toNat = false) : Lx (basedT 10 false n) [(2, [], (n : Int))] r :=
  Lx.num (basedT_ne 10 false (by omega) n) (fun c hc => basedT_all 10 false (by omega) (by omega) (fun x => wordB x.toNat = true) (fun d hd => digCh_word false d (by omega)) n n (Nat.le_refl _) c hc)
    (by
      have := basedT_all 10 false (by omega) (by omega) (fun x => digitB x.toNat = true) (fun d hd => (digCh_dec d hd).1) n n (Nat.le_refl _)
      have hne := basedT_ne 10 false (by omega) n
      cases e : basedT 10 false n with
      | nil => exact absurd e hne
      | cons a l => rw [e] at this; exact this a (by simp)) (by rw [numT_dec, numR_le h]) hr
/-- What Format writes. -/
def fmtT (n : Nat) : List UInt8 := if n < 10 then [digCh false n] else 48 :: 120 :: basedT 16 false n
theorem fmt_ne (n : Nat) : fmtT n ≠ [] := by unfold fmtT; split <;> simp
theorem Lx.fmt {n : Nat} {r : List UInt8} (h : n ≤ 4294967295) (hr : r = [] ∨ wordB (r.headD 0).toNat = false) : Lx (fmtT n) [(2, [], (n : Int))] r := by
  unfold fmtT
  split
  · rename_i hn
    have := Lx.dec (n := n) (r := r) h hr
    rwa [basedT_small 10 false n hn] at this
  · refine Lx.num (by simp) ?_ (show digitB (48 : UInt8).toNat = true by decide) (by rw [numT_hex, numR_le h]) hr
    intro c hc
    simp only [List.mem_cons] at hc
    rcases hc with rfl | rfl | hc
    · decide
    · decide
    · exact basedT_all 16 false (by omega) (by omega) (fun x => wordB x.toNat = true) (fun d hd => digCh_word false d hd) n n (Nat.le_refl _) c hc
theorem basedT_dec_len : ∀ (m n : Nat), n < 10 ^ (m + 1) → (basedT 10 false n).length ≤ m + 1 := by
  intro m
  induction m with
  | zero => intro n h; rw [basedT_small 10 false n (by omega)]; simp
  | succ m ih =>
    intro n h
    rcases Nat.lt_or_ge n 10 with c | c
    · rw [basedT_small 10 false n c]; simp
    · rw [basedT_great 10 false (by omega) n c]
      have := ih (n / 10) (by rw [Nat.pow_succ] at h; omega)
      simp; omega
theorem basedT_len10 (n : Nat) (h : n ≤ 4294967295) : (basedT 10 false n).length ≤ 10 := basedT_dec_len 9 n (by omega)
end Go.Proofs.Ytofhcgbihonckaa
